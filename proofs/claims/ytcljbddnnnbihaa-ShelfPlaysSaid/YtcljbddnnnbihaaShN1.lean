/- A part of the proofs that a law function returns true at every input; it has no condition of its own. -/
import Derived.Sort.Walk0
import Derived.Test.YtcljbddnnnbihaaShL2
set_option linter.unusedSimpArgs false
set_option linter.unusedVariables false
/- ShN1: The plain law: the shelf's files and the document's list go together. -/
namespace Go.Ab.Sh
open Go Go.Conc Go.RowKit Go.Ab
def Srt (l : Files) : Prop := l.Pairwise fun a b => a.1 < b.1
structure Sim (now l : Files) : Prop where
  perm : now.Perm l
  srt : Srt l
  short : ∀ x ∈ l, x.1.length ≤ 16
def KN (f : Files) : Prop := (f.map (·.1)).Nodup
theorem Srt.kn {l : Files} (h : Srt l) : KN l := by
  refine List.pairwise_map.2 (h.imp ?_)
  intro a b hab e
  rw [e] at hab
  exact List.lt_irrefl _ hab
theorem Sim.kn {now l : Files} (h : Sim now l) : KN now := ((h.perm.map (fun x : Str × Str => x.1)).nodup_iff).2 h.srt.kn
theorem KN.tail {x : Str × Str} {f : Files} (h : KN (x :: f)) : KN f ∧ ∀ y ∈ f, y.1 ≠ x.1 := by
  have h : ((x :: f).map (·.1)).Nodup := h
  rw [List.map_cons, List.nodup_cons] at h
  exact ⟨h.2, fun y hy e => h.1 (List.mem_map.2 ⟨y, hy, e⟩)⟩
theorem getF_mem {k v : Str} : ∀ {f : Files}, KN f → (getF f k = some v ↔ (k, v) ∈ f)
  | [], _ => by simp [getF]
  | (x, u) :: r, h => by
    obtain ⟨h1, h2⟩ := h.tail
    have ih := getF_mem (k := k) (v := v) h1
    simp only [getF]
    split
    · rename_i e
      subst e
      constructor
      · intro e; cases e; simp
      · intro hm
        rcases List.mem_cons.1 hm with e | hm
        · cases e; rfl
        · exact absurd rfl (h2 (k, v) hm)
    · rename_i e
      rw [ih]
      simp [e]
theorem getF_none {k : Str} : ∀ {f : Files}, getF f k = none ↔ ∀ x ∈ f, x.1 ≠ k
  | [] => by simp [getF]
  | (x, u) :: r => by
    have ih := getF_none (k := k) (f := r)
    simp only [getF]
    split
    · rename_i e; subst e; simp
    · rename_i e; rw [ih]; simp; intro _; exact fun h => e h.symm
theorem getF_perm {f g : Files} (hp : f.Perm g) (hk : KN f) (k : Str) : getF f k = getF g k := by
  have hg : KN g := ((hp.map (fun x : Str × Str => x.1)).nodup_iff).1 hk
  cases h : getF g k with
  | none => rw [getF_none] at h ⊢; exact fun x hx => h x (hp.mem_iff.1 hx)
  | some v => rw [getF_mem hk]; exact hp.mem_iff.2 ((getF_mem hg).1 h)
theorem usedF_perm {f g : Files} (hp : f.Perm g) : usedF f = usedF g := by
  induction hp with
  | nil => rfl
  | cons x _ ih => obtain ⟨a, b⟩ := x; simp only [usedF, ih]
  | swap x y l => obtain ⟨a, b⟩ := x; obtain ⟨c, d⟩ := y; simp only [usedF]; omega
  | trans _ _ i1 i2 => exact i1.trans i2
theorem findI_get (k : Str) : ∀ l : Files, (findI l k < 0 ↔ getF l k = none) ∧ (0 ≤ findI l k → atD l (findI l k) = (getF l k).getD [])
  | [] => by simp [findI, getF]
  | (x, u) :: r => by
    obtain ⟨i1, i2⟩ := findI_get k r
    have hlt := findI_lt k r
    simp only [findI, getF]
    by_cases e : x = k
    · subst e; simp [atD]
    · have e' : ¬ k = x := fun h => e h.symm
      simp only [e, e', if_false]
      by_cases h : findI r k < 0
      · simp only [h, if_true]
        exact ⟨by constructor <;> intro _ <;> first | omega | exact i1.1 h, fun h => by omega⟩
      · simp only [h, if_false]
        refine ⟨⟨fun h1 => by omega, fun h1 => absurd (i1.2 h1) h⟩, fun _ => ?_⟩
        rw [← i2 (by omega)]
        have e3 : (findI r k + 1).toNat = (findI r k).toNat + 1 := by omega
        simp [atD, e3]
theorem delF_eq {k : Str} : ∀ {f : Files}, KN f → delF k f = withoutF f k
  | [], _ => rfl
  | (x, u) :: r, h => by
    obtain ⟨h1, h2⟩ := h.tail
    simp only [delF, withoutF]
    by_cases e : k = x
    · subst e
      simp only [if_true]
      rw [List.filter_cons_of_neg (by simp)]
      exact (List.filter_eq_self.2 fun y hy => by simpa using h2 y hy).symm
    · simp only [e, if_false]
      rw [List.filter_cons_of_pos (by simpa using fun h => e h.symm)]
      rw [delF_eq h1]
      rfl
theorem setF_perm {k v : Str} : ∀ {f : Files}, KN f → (setF k v f).Perm ((k, v) :: withoutF f k)
  | [], _ => by simp [setF, withoutF]
  | (x, u) :: r, h => by
    obtain ⟨h1, h2⟩ := h.tail
    simp only [setF]
    by_cases e : k = x
    · subst e
      simp only [if_true, withoutF]
      rw [List.filter_cons_of_neg (by simp)]
      rw [List.filter_eq_self.2 fun y hy => by simpa using h2 y hy]
    · simp only [e, if_false, withoutF]
      rw [List.filter_cons_of_pos (by simpa using fun h => e h.symm)]
      exact ((setF_perm h1).cons _).trans (List.Perm.swap _ _ _)
theorem insF_perm (x : Str × Str) : ∀ l : Files, (insF x l).Perm (x :: l)
  | [] => by simp [insF]
  | y :: r => by
    simp only [insF]
    split
    · exact List.Perm.refl _
    · exact ((insF_perm x r).cons _).trans (List.Perm.swap _ _ _)
theorem insF_srt (x : Str × Str) : ∀ l : Files, Srt l → (∀ y ∈ l, y.1 ≠ x.1) → Srt (insF x l)
  | [], _, _ => by simp [insF, Srt]
  | y :: r, h, hn => by
    obtain ⟨h1, h2⟩ := List.pairwise_cons.1 h
    simp only [insF]
    split
    · rename_i e
      rw [Go.Proofs.bytesLess_eq, decide_eq_true_eq] at e
      refine List.pairwise_cons.2 ⟨fun z hz => ?_, h⟩
      rcases List.mem_cons.1 hz with rfl | hz
      · exact e
      · exact List.lt_trans e (h1 z hz)
    · rename_i e
      rw [Go.Proofs.bytesLess_eq, decide_eq_true_eq] at e
      have hlt : y.1 < x.1 := by
        rcases List.le_iff_lt_or_eq.1 (List.not_lt.1 e) with h | h
        · exact h
        · exact absurd h (hn y (by simp))
      refine List.pairwise_cons.2 ⟨fun z hz => ?_, insF_srt x r h2 fun z hz => hn z (by simp [hz])⟩
      rcases List.mem_cons.1 ((insF_perm x r).mem_iff.1 hz) with rfl | hz
      · exact hlt
      · exact h1 z hz
theorem withoutF_srt {l : Files} (k : Str) (h : Srt l) : Srt (withoutF l k) := List.Pairwise.filter _ h
theorem withoutF_ne {l : Files} {k : Str} : ∀ y ∈ withoutF l k, y.1 ≠ k := fun y hy => by
  have := (List.mem_filter.1 hy).2
  simpa using this
theorem withF_srt {l : Files} (x : Str × Str) (h : Srt l) : Srt (withF l x) := insF_srt x _ (withoutF_srt _ h) withoutF_ne
theorem Sim.set {now l : Files} (h : Sim now l) (x : Str × Str) (hx : x.1.length ≤ 16) : Sim (setF x.1 x.2 now) (withF l x) := by
  refine ⟨(setF_perm h.kn).trans ((List.Perm.cons _ (h.perm.filter _)).trans (insF_perm x _).symm), withF_srt x h.srt, fun y hy => ?_⟩
  rcases List.mem_cons.1 ((insF_perm x _).mem_iff.1 hy) with rfl | hy
  · exact hx
  · exact h.short y (List.mem_filter.1 hy).1
theorem Sim.del {now l : Files} (h : Sim now l) (k : Str) : Sim (delF k now) (withoutF l k) := by
  refine ⟨by rw [delF_eq h.kn]; exact h.perm.filter _, withoutF_srt _ h.srt, fun y hy => h.short y (List.mem_filter.1 hy).1⟩
theorem Sim.get {now l : Files} (h : Sim now l) (k : Str) : getF now k = getF l k := getF_perm h.perm h.kn k
theorem setF_self {k v : Str} : ∀ {f : Files}, getF f k = some v → setF k v f = f
  | [], h => by simp [getF] at h
  | (x, u) :: r, h => by
    simp only [getF] at h
    simp only [setF]
    split at h
    · rename_i e; cases h; subst e; simp
    · rename_i e; simp only [e, if_false]; rw [setF_self h]
/-- What an act wants. -/
def okA (a : Act) (f : Files) : Prop := (a.kind = 1 ∧ namedF a.name = true) ∨ (a.kind = 2 ∧ (getF f a.name).isSome = true) ∨ (a.kind = 3 ∧ (getF f a.name).isSome = true ∧ namedF a.b = true) ∨ (a.kind = 4)
theorem named_len {s : Str} (h : namedF s = true) : s.length ≤ 16 := by
  simp only [namedF, Bool.and_eq_true, decide_eq_true_eq] at h
  exact h.2
theorem mem_short {now l : Files} (h : Sim now l) {k : Str} (hk : (getF now k).isSome = true) : k.length ≤ 16 := by
  obtain ⟨v, hv⟩ := Option.isSome_iff_exists.1 hk
  exact h.short (k, v) (h.perm.mem_iff.1 ((getF_mem h.kn).1 hv))
theorem atD_get {now l : Files} (h : Sim now l) {k : Str} (hk : (getF now k).isSome = true) : 0 ≤ findI l k ∧ atD l (findI l k) = (getF now k).getD [] := by
  obtain ⟨h1, h2⟩ := findI_get k l
  have h0 : 0 ≤ findI l k := by
    rcases Int.lt_or_le (findI l k) 0 with h3 | h3
    · rw [h.get, h1.1 h3] at hk; cases hk
    · exact h3
  exact ⟨h0, by rw [h2 h0, h.get]⟩
theorem does_sim {now l : Files} (h : Sim now l) {a : Act} (ha : okA a now) : Sim (doesF a now) (rdoneF l a) := by
  obtain ⟨k, nm, b⟩ := a
  rcases ha with ⟨rfl, h1⟩ | ⟨rfl, h1⟩ | ⟨rfl, h1, h2⟩ | rfl
  · exact h.set (nm, b) (named_len h1)
  · have := (atD_get h h1).2
    have e1 : doesF ⟨2, nm, b⟩ now = setF nm ((getF now nm).getD [] ++ b) now := rfl
    have e2 : rdoneF l ⟨2, nm, b⟩ = withF l (nm, atD l (findI l nm) ++ b) := rfl
    simp only at h1 this
    rw [e1, e2, this]
    exact h.set (nm, _) (mem_short h h1)
  · have := (atD_get h h1).2
    have e1 : doesF ⟨3, nm, b⟩ now = setF b ((getF now nm).getD []) (delF nm now) := rfl
    have e2 : rdoneF l ⟨3, nm, b⟩ = if nm = b then l else withF (withoutF l nm) (b, atD l (findI l nm)) := rfl
    simp only at h1 h2 this
    rw [e1, e2, this]
    split
    · rename_i e
      subst e
      have hd := h.del nm
      refine ⟨?_, h.srt, h.short⟩
      obtain ⟨v, hv⟩ := Option.isSome_iff_exists.1 h1
      rw [hv]
      refine (setF_perm hd.kn).trans ?_
      rw [delF_eq h.kn]
      have e3 : withoutF (withoutF now nm) nm = withoutF now nm := by simp [withoutF]
      rw [e3]
      refine ((setF_perm (v := v) h.kn).symm.trans ?_).trans h.perm
      rw [setF_self hv]
    · exact (h.del nm).set (b, _) (named_len h2)
  · exact h.del nm
def validA : Files → List Act → Prop
  | _, [] => True
  | f, a :: r => okA a f ∧ validA (doesF a f) r
theorem validA_app : ∀ (l : List Act) (f : Files) (a : Act), validA f l → okA a (foldA f l) → validA f (l ++ [a])
  | [], f, a, _, h => ⟨h, trivial⟩
  | b :: r, f, a, h1, h2 => ⟨h1.1, validA_app r _ a h1.2 h2⟩
theorem validA_take : ∀ (l : List Act) (f : Files) (i : Nat), validA f l → validA f (l.take i)
  | [], f, i, _ => by simp [validA]
  | b :: r, f, 0, h => trivial
  | b :: r, f, i + 1, h => ⟨h.1, validA_take r _ i h.2⟩
theorem validA_at : ∀ (l : List Act) (f : Files) (i : Nat) (hi : i < l.length), validA f l → okA l[i] (foldA f (l.take i))
  | b :: r, f, 0, hi, h => h.1
  | b :: r, f, i + 1, hi, h => validA_at r (doesF b f) i (by simpa using hi) h.2
theorem fold_sim : ∀ (l : List Act) (f g : Files), validA f l → Sim f g → Sim (foldA f l) (foldR g l)
  | [], f, g, _, h => h
  | b :: r, f, g, hv, h => fold_sim r _ _ hv.2 (does_sim h hv.1)
theorem torn_sim {f g : Files} (h : Sim f g) {a : Act} (ha : okA a f) (k : Nat) : Sim (tornF a k f) (rtornF a k g) := by
  obtain ⟨kd, nm, b⟩ := a
  unfold tornF rtornF
  rcases ha with ⟨rfl, h1⟩ | ⟨rfl, h1⟩ | ⟨rfl, h1, h2⟩ | rfl
  · by_cases e : b.take k = []
    · simp [e]; exact h
    · simp only [e, and_false, or_false, if_neg (show ¬ ((1 : Int) = 3 ∨ (1 : Int) = 4) by omega), show (1 : Int) ≤ 2 by omega, true_and, ne_eq, not_false_eq_true, if_true]
      exact does_sim h (.inl ⟨rfl, h1⟩)
  · by_cases e : b.take k = []
    · simp [e]
      have e1 : doesF ⟨2, nm, []⟩ f = setF nm ((getF f nm).getD [] ++ []) f := rfl
      obtain ⟨v, hv⟩ := Option.isSome_iff_exists.1 h1
      simp only at hv
      rw [e1, hv, Option.getD_some, List.append_nil, setF_self hv]
      exact h
    · simp [e]
      exact does_sim h (.inr (.inl ⟨rfl, h1⟩))
  · simp; exact h
  · simp; exact h
theorem crash_sim {f g : Files} (h : Sim f g) {l : List Act} (hv : validA f l) (n k : Nat) : Sim (crashF n k l f) (rcrashF n k l g) := by
  by_cases hn : n < l.length
  · rw [crash_at n k l f hn, rcrash_at n k l g hn]
    exact torn_sim (fold_sim _ _ _ (validA_take l f n hv) h) (validA_at l f n hn hv) k
  · unfold crashF rcrashF
    rw [List.drop_eq_nil_of_le (by omega)]
    exact fold_sim _ _ _ (validA_take l f n hv) h
theorem Sim.like {now l : Files} (h : Sim now l) : Like now l where
  names := by
    have h1 : (now.map (·.1)).mergeSort leB = (l.map (·.1)).mergeSort leB := mergeSort_of_perm (h.perm.map _)
    unfold namesF
    rw [h1]
    refine List.mergeSort_of_pairwise ?_
    refine List.pairwise_map.2 (h.srt.imp ?_)
    intro a b hab
    simp only [leB, decide_eq_true_eq]
    exact List.le_of_lt hab
  len := h.perm.length_eq
  used := usedF_perm h.perm
  get := fun i x hx => by rw [getF_mem h.kn]; exact h.perm.mem_iff.2 (List.mem_of_getElem? hx)
  nodup := h.kn
  short := fun x hx => Nat.le_trans (h.short x (h.perm.mem_iff.1 hx)) (by unfold maxLen; omega)
theorem find_iff {now l : Files} (h : Sim now l) (k : Str) : (getF now k).isSome = decide (0 ≤ findI l k) := by
  have h1 := (findI_get k l).1
  rw [h.get]
  cases hg : getF l k with
  | none => have := h1.2 hg; simp; omega
  | some v =>
    have : ¬ findI l k < 0 := fun h2 => by rw [h1.1 h2] at hg; cases hg
    simp; omega
theorem put_eq {now l : Files} (h : Sim now l) (room : Int) (nm b : Str) : putC now room nm b = rputC l room nm b := by
  simp only [putC, rputC, find_iff h, decide_eq_true_eq, usedF_perm h.perm, h.perm.length_eq]
theorem add_eq {now l : Files} (h : Sim now l) (room : Int) (nm b : Str) : addC now room nm b = raddC l room nm b := by
  simp only [addC, raddC, find_iff h, decide_eq_false_iff_not, usedF_perm h.perm, Int.not_le]
theorem swap_eq {now l : Files} (h : Sim now l) (old nm : Str) : swapC now old nm = rswapC l old nm := by
  simp only [swapC, rswapC, find_iff h, decide_eq_false_iff_not, Int.not_le]
theorem drop_eq {now l : Files} (h : Sim now l) (nm : Str) : dropC now nm = rdropC l nm := by
  simp only [dropC, rdropC, find_iff h, decide_eq_false_iff_not, Int.not_le]
theorem len_does (a : Act) (f : Files) : (doesF a f).length ≤ f.length + 1 := by
  have h1 : ∀ (k v : Str) (f : Files), (setF k v f).length ≤ f.length + 1 := by
    intro k v f
    induction f with
    | nil => simp [setF]
    | cons x r ih => obtain ⟨x, u⟩ := x; simp only [setF]; split <;> simp; omega
  have h2 : ∀ (k : Str) (f : Files), (delF k f).length ≤ f.length := by
    intro k f
    induction f with
    | nil => simp [delF]
    | cons x r ih => obtain ⟨x, u⟩ := x; simp only [delF]; split <;> simp; omega
  unfold doesF
  split
  · exact h1 _ _ _
  · split
    · exact h1 _ _ _
    · split
      · exact Nat.le_trans (h1 _ _ _) (by have := h2 a.name f; omega)
      · split
        · have := h2 a.name f; omega
        · omega
theorem len_fold : ∀ (l : List Act) (f : Files), (foldA f l).length ≤ f.length + l.length
  | [], f => by simp [foldA]
  | a :: r, f => by
    have h1 := len_fold r (doesF a f)
    have h2 := len_does a f
    simp only [foldA, List.foldl_cons, List.length_cons] at h1 ⊢
    omega
theorem len_crash (n k : Nat) (l : List Act) (f : Files) : (crashF n k l f).length ≤ f.length + l.length ∧ usedF (crashF n k l f) ≤ usedF f + sumB l := by
  by_cases hn : n < l.length
  · rw [crash_at n k l f hn]
    have h1 := len_fold (l.take n) f
    have h2 := usedF_fold (l.take n) f
    have h3 := sumB_at hn
    have h4 : (l.take n).length + 1 ≤ l.length := by rw [List.length_take]; omega
    unfold tornF
    split
    · omega
    · have h5 := len_does { l[n] with b := l[n].b.take k } (foldA f (l.take n))
      have h6 := usedF_does { l[n] with b := l[n].b.take k } (foldA f (l.take n))
      have h7 : (l[n].b.take k).length ≤ l[n].b.length := List.length_take_le' _ _
      simp only at h5 h6
      omega
  · unfold crashF
    rw [List.drop_eq_nil_of_le (by omega), List.take_of_length_le (by omega)]
    exact ⟨len_fold l f, usedF_fold l f⟩
/-- What the document's crash wants. -/
theorem hv_of {f g : Files} (h : Sim f g) {l : List Act} (hv : validA f l) (h1 : f.length + l.length < 100000) (h2 : usedF f + sumB l < 4611686018427387904) :
    ∀ (i : Nat) (hi : i < l.length), (foldR g (l.take i)).length < 100000 ∧ ((l[i].kind = 2 ∨ l[i].kind = 3) → 0 ≤ findI (foldR g (l.take i)) l[i].name) ∧ usedF (foldR g (l.take i)) + l[i].b.length < 4611686018427387904 := by
  intro i hi
  have hs := fold_sim _ _ _ (validA_take l f i hv) h
  have ho := validA_at l f i hi hv
  have e1 := len_fold (l.take i) f
  have e2 := usedF_fold (l.take i) f
  have e3 := sumB_at hi
  have e4 : (l.take i).length ≤ l.length := List.length_take_le' _ _
  have e5 := hs.perm.length_eq
  have e6 := usedF_perm hs.perm
  refine ⟨by omega, fun hk => ?_, by omega⟩
  rcases ho with ⟨h3, _⟩ | ⟨_, h3⟩ | ⟨_, h3, _⟩ | h3
  · omega
  · exact (atD_get hs h3).1
  · exact (atD_get hs h3).1
  · omega
end Go.Ab.Sh
