/- A part of the proofs that a law function returns true at every input; it has no condition of its own. -/
import Derived.Test.YtcljbddnnnbihaaShN1
set_option linter.unusedSimpArgs false
set_option linter.unusedVariables false
/- ShP: Both shelves together, through any act. -/
namespace Go.Ab.Sh
open Go Go.Conc Go.RowKit Go.Ab
theorem HLess.push {H : List HObj} {cs cs' : List DV} (hc : cs'.length = cs.length ∧ ∀ (j : Nat) (c' : DV), cs'[j]? = some c' → ∃ c, cs[j]? = some c ∧ CWk _root_.id (.hp H.length j) c c') : HLess (H ++ [.cells cs]) (H ++ [.cells cs']) := by
  have h := HLess.set (H := H ++ [.cells cs]) (i := H.length) hc
  have e1 : ∀ x, (H ++ [HObj.cells cs]).set H.length x = H ++ [x] := fun x => by simp [List.set_append]
  rw [e1, e1] at h
  exact h
/-- ref's New. -/
def S11 : Spec := fun H args K => ∃ v, args = [.int .i64 v] ∧ K (H ++ [HObj.cells (refC [] [] [] (min (max v 0) 1000000))]) (.ptr H.length 0)
theorem rc11 {I : Jd pp} (hI : ∀ w e, I.Ok w e) : RC I 11 S11 := by
  refine (rc11a hI).wk ?_
  rintro H args K ⟨v, rfl, hK⟩
  refine ⟨v, rfl, _, HLess.push ⟨by simp [refC], fun j c' hc => ?_⟩, hK⟩
  match j with
  | 0 => cases hc; exact ⟨_, rfl, .inr (.inl rfl)⟩
  | 1 => cases hc; exact ⟨_, rfl, .inr (.inl rfl)⟩
  | 2 => cases hc; exact ⟨_, rfl, .inr (.inl rfl)⟩
  | 3 => cases hc; exact ⟨_, rfl, .inl ⟨rfl, rfl⟩⟩
  | j + 4 => simp [refC] at hc
section
variable {H : List HObj} {rid : Nat} {l rkept : Files} {acts : List Act} {most : Int} {K : List HObj → DV → Prop}
theorem RefAt.lt (h : RefAt H rid l rkept acts most) : rid < H.length := (List.getElem?_eq_some_iff.1 h).1
theorem RefAt.fr {H' : List HObj} {S : List Nat} (h : RefAt H rid l rkept acts most) (f : Fr H H' S) (h1 : rid ∉ S) : RefAt H' rid l rkept acts most := (f.2 _ h.lt h1).trans h
theorem RefAt.acted (a : Act) (c : Int) (h : RefAt H rid l rkept acts most)
    (hK : ∀ H', Fr H H' [rid] → RefAt H' rid (if c = 0 then rdoneF l a else l) rkept (if c = 0 then acts ++ [a] else acts) most → K H' (.int .i64 c)) : K (if c = 0 then rdoH H rid l rkept acts most a else H) (.int .i64 c) := by
  refine hK _ ?_ ?_
  · split
    · exact Fr.set _ _
    · exact Fr.refl _ _
  · split
    · exact hset (j := 0) h.lt
    · exact h
theorem rapp13 {nm b : Str} (c : Int) (h1 : RefAt H rid l rkept acts most) (h2 : l.length < 100000) (h3 : usedF l < 4611686018427387904) (h4 : 0 ≤ most) (h5 : most < 4611686018427387904) (h6 : acts.length < 100000) (h7 : nm.length < 4611686018427387904) (h8 : b.length < 4611686018427387904) (hc : rputC l most nm b = c)
    (hK : ∀ H', Fr H H' [rid] → RefAt H' rid (if c = 0 then rdoneF l ⟨1, nm, b⟩ else l) rkept (if c = 0 then acts ++ [⟨1, nm, b⟩] else acts) most → K H' (.int .i64 c)) : app S13 H [.ptr rid 0, .str nm, .str b] K :=
  ⟨rid, l, rkept, acts, most, nm, b, rfl, h1, h2, h3, h4, h5, h6, h7, h8, by rw [hc]; exact h1.acted _ c hK⟩
theorem rapp15 {nm b : Str} (c : Int) (h1 : RefAt H rid l rkept acts most) (h2 : l.length < 100000) (h3 : usedF l < 4611686018427387904) (h4 : 0 ≤ most) (h5 : most < 4611686018427387904) (h6 : acts.length < 100000) (h8 : b.length < 4611686018427387904) (hc : raddC l most nm b = c)
    (hK : ∀ H', Fr H H' [rid] → RefAt H' rid (if c = 0 then rdoneF l ⟨2, nm, b⟩ else l) rkept (if c = 0 then acts ++ [⟨2, nm, b⟩] else acts) most → K H' (.int .i64 c)) : app S15 H [.ptr rid 0, .str nm, .str b] K :=
  ⟨rid, l, rkept, acts, most, nm, b, rfl, h1, h2, h3, h4, h5, h6, h8, by rw [hc]; exact h1.acted _ c hK⟩
theorem rapp17 {old nm : Str} (c : Int) (h1 : RefAt H rid l rkept acts most) (h2 : l.length < 100000) (h3 : usedF l < 4611686018427387904) (h6 : acts.length < 100000) (h7 : nm.length < 4611686018427387904) (hc : rswapC l old nm = c)
    (hK : ∀ H', Fr H H' [rid] → RefAt H' rid (if c = 0 then rdoneF l ⟨3, old, nm⟩ else l) rkept (if c = 0 then acts ++ [⟨3, old, nm⟩] else acts) most → K H' (.int .i64 c)) : app S17 H [.ptr rid 0, .str old, .str nm] K :=
  ⟨rid, l, rkept, acts, most, old, nm, rfl, h1, h2, h3, h6, h7, by rw [hc]; exact h1.acted _ c hK⟩
theorem rapp19 {nm : Str} (c : Int) (h1 : RefAt H rid l rkept acts most) (h2 : l.length < 100000) (h3 : usedF l < 4611686018427387904) (h6 : acts.length < 100000) (hc : rdropC l nm = c)
    (hK : ∀ H', Fr H H' [rid] → RefAt H' rid (if c = 0 then rdoneF l ⟨4, nm, []⟩ else l) rkept (if c = 0 then acts ++ [⟨4, nm, []⟩] else acts) most → K H' (.int .i64 c)) : app S19 H [.ptr rid 0, .str nm] K :=
  ⟨rid, l, rkept, acts, most, nm, rfl, h1, h2, h3, h6, by rw [hc]; exact h1.acted _ c hK⟩
theorem rapp21 (h1 : RefAt H rid l rkept acts most) (hK : ∀ H', Fr H H' [rid] → RefAt H' rid l l [] most → K H' (.tup [])) : app S21 H [.ptr rid 0] K :=
  ⟨rid, l, rkept, acts, most, rfl, h1, hK _ (Fr.set _ _) (hset (j := 0) h1.lt)⟩
theorem rapp23 {v : Int} (h1 : RefAt H rid l rkept acts most) (hK : ∀ H', Fr H H' [rid] → RefAt H' rid l rkept acts (min (max v 0) 1000000) → K H' (.tup [])) : app S23 H [.ptr rid 0, .int .i64 v] K :=
  ⟨rid, l, rkept, acts, most, v, rfl, h1, hK _ (Fr.set _ _) (hset (j := 0) h1.lt)⟩
theorem rapp25 {x y : Int} (h1 : RefAt H rid l rkept acts most) (h2 : acts.length < 100000)
    (h3 : ∀ (i : Nat) (hi : i < acts.length), (foldR rkept (acts.take i)).length < 100000 ∧ ((acts[i].kind = 2 ∨ acts[i].kind = 3) → 0 ≤ findI (foldR rkept (acts.take i)) acts[i].name) ∧ usedF (foldR rkept (acts.take i)) + acts[i].b.length < 4611686018427387904)
    (hK : ∀ H', Fr H H' [rid] → RefAt H' rid (rcrashF (min (max x 0) acts.length).toNat (max y 0).toNat acts rkept) (rcrashF (min (max x 0) acts.length).toNat (max y 0).toNat acts rkept) [] most → K H' (.tup [])) : app S25 H [.ptr rid 0, .int .i64 x, .int .i64 y] K :=
  ⟨rid, l, rkept, acts, most, x, y, rfl, h1, h2, h3, hK _ (Fr.set _ _) (hset (j := 0) h1.lt)⟩
theorem rapp11 {v : Int} (hK : ∀ H', Fr H H' [] → H.length + 1 ≤ H'.length → RefAt H' H.length [] [] [] (min (max v 0) 1000000) → K H' (.ptr H.length 0)) : app S11 H [.int .i64 v] K :=
  ⟨v, rfl, hK _ (Fr.app _ _) (by simp) (by simp [RefAt])⟩
end
/-- Both shelves, after so many steps. -/
structure Inv (H : List HObj) (id k n rid : Nat) (kept now l rkept : Files) (acts : List Act) (room : Int) (i : Nat) : Prop where
  sh : ShelfAt H id k n kept now acts room
  rf : RefAt H rid l rkept acts room
  sim : Sim now l
  simk : Sim kept rkept
  fold : now = foldA kept acts
  valid : validA kept acts
  room0 : 0 ≤ room
  room1 : room ≤ 1000000
  len : now.length ≤ i
  lenk : kept.length + acts.length ≤ i
  used : usedF now ≤ 100 * i
  usedk : usedF kept + sumB acts ≤ 100 * i
section
variable {H : List HObj} {id k n rid : Nat} {kept now l rkept : Files} {acts : List Act} {room : Int} {i : Nat}
theorem Inv.ne (h : Inv H id k n rid kept now l rkept acts room i) : rid ≠ id ∧ rid ≠ k ∧ rid ≠ n := by
  have h1 := h.sh.1
  have h2 := h.sh.2.1
  have h3 := h.sh.2.2.1
  have h4 : H[rid]? = some (.cells (refC l rkept acts room)) := h.rf
  refine ⟨?_, ?_, ?_⟩
  · rintro rfl; rw [h1] at h4; simp [shelfC, refC] at h4
  · rintro rfl; rw [h2] at h4; cases h4
  · rintro rfl; rw [h3] at h4; cases h4
theorem Inv.acted (h : Inv H id k n rid kept now l rkept acts room i) (a : Act) (c : Int) (hok : c = 0 → okA a now) (hb : a.b.length ≤ 100) {H2 : List HObj} (s2 : ShelfAt H2 id k n kept (if c = 0 then doesF a now else now) (if c = 0 then acts ++ [a] else acts) room)
    (r2 : RefAt H2 rid (if c = 0 then rdoneF l a else l) rkept (if c = 0 then acts ++ [a] else acts) room) : ∃ now' l' acts', Inv H2 id k n rid kept now' l' rkept acts' room (i + 1) := by
  have q1 := h.len
  have q2 := h.lenk
  have q3 := h.used
  have q4 := h.usedk
  by_cases hc : c = 0
  · simp only [hc, if_true] at s2 r2
    have ho := hok hc
    have e1 := len_does a now
    have e2 := usedF_does a now
    have hf := h.fold
    refine ⟨_, _, _, s2, r2, does_sim h.sim ho, h.simk, ?_, validA_app _ _ _ h.valid (by rw [← hf]; exact ho), h.room0, h.room1, by omega, ?_, by omega, ?_⟩
    · rw [hf]; simp [foldA]
    · rw [List.length_append]; simp; omega
    · rw [sumB_app]; simp [sumB]; omega
  · simp only [hc, if_false] at s2 r2
    exact ⟨_, _, _, s2, r2, h.sim, h.simk, h.fold, h.valid, h.room0, h.room1, by omega, by omega, by omega, by omega⟩
theorem Inv.keeps (h : Inv H id k n rid kept now l rkept acts room i) {H2 : List HObj} {k' : Nat} (s2 : ShelfAt H2 id k' n now now [] room) (r2 : RefAt H2 rid l l [] room) : Inv H2 id k' n rid now now l l [] room (i + 1) :=
  ⟨s2, r2, h.sim, h.sim, rfl, trivial, h.room0, h.room1, by have := h.len; omega, by have := h.len; simp; omega, by have := h.used; omega, by have := h.used; simp [sumB]; omega⟩
theorem Inv.roomed (h : Inv H id k n rid kept now l rkept acts room i) {H2 : List HObj} {v : Int} (s2 : ShelfAt H2 id k n kept now acts (min (max v 0) 1000000)) (r2 : RefAt H2 rid l rkept acts (min (max v 0) 1000000)) : Inv H2 id k n rid kept now l rkept acts (min (max v 0) 1000000) (i + 1) :=
  ⟨s2, r2, h.sim, h.simk, h.fold, h.valid, by omega, by omega, by have := h.len; omega, by have := h.lenk; omega, by have := h.used; omega, by have := h.usedk; omega⟩
theorem Inv.crashed (h : Inv H id k n rid kept now l rkept acts room i) {H2 : List HObj} {n' a b : Nat} (s2 : ShelfAt H2 id k n' (crashF a b acts kept) (crashF a b acts kept) [] room) (r2 : RefAt H2 rid (rcrashF a b acts rkept) (rcrashF a b acts rkept) [] room) :
    Inv H2 id k n' rid (crashF a b acts kept) (crashF a b acts kept) (rcrashF a b acts rkept) (rcrashF a b acts rkept) [] room (i + 1) := by
  have h1 := crash_sim h.simk h.valid a b
  have h2 := len_crash a b acts kept
  have h3 := h.lenk
  have h4 := h.usedk
  exact ⟨s2, r2, h1, h1, rfl, trivial, h.room0, h.room1, by omega, by simp; omega, by omega, by simp [sumB]; omega⟩
theorem Inv.moved (h : Inv H id k n rid kept now l rkept acts room i) {H2 : List HObj} {id' k' n' : Nat} (s2 : ShelfAt H2 id' k' n' kept now acts room) (r2 : RefAt H2 rid l rkept acts room) : Inv H2 id' k' n' rid kept now l rkept acts room (i + 1) :=
  ⟨s2, r2, h.sim, h.simk, h.fold, h.valid, h.room0, h.room1, by have := h.len; omega, by have := h.lenk; omega, by have := h.used; omega, by have := h.usedk; omega⟩
end
theorem ok_put {now : Files} {room : Int} {nm b : Str} (h : putC now room nm b = 0) : okA ⟨1, nm, b⟩ now := by
  refine .inl ⟨rfl, ?_⟩
  unfold putC at h
  cases hn : namedF nm with
  | true => rfl
  | false => simp [hn] at h
theorem ok_add {now : Files} {room : Int} {nm b : Str} (h : addC now room nm b = 0) : okA ⟨2, nm, b⟩ now := by
  refine .inr (.inl ⟨rfl, ?_⟩)
  unfold addC at h
  cases hn : (getF now nm).isSome with
  | true => rfl
  | false => simp [hn] at h
theorem ok_swap {now : Files} {old nm : Str} (h : swapC now old nm = 0) : okA ⟨3, old, nm⟩ now := by
  refine .inr (.inr (.inl ⟨rfl, ?_, ?_⟩))
  · unfold swapC at h
    cases hn : (getF now old).isSome with
    | true => rfl
    | false => simp [hn] at h; split at h <;> cases h
  · unfold swapC at h
    cases hn : namedF nm with
    | true => rfl
    | false => simp [hn] at h
theorem ok_drop {now : Files} {nm : Str} : okA ⟨4, nm, []⟩ now := .inr (.inr (.inr rfl))
theorem get_eq {now l : Files} (h : Sim now l) (nm : Str) : (if findI l nm < 0 then [] else atD l (findI l nm)) = (getF now nm).getD [] ∧ (if findI l nm < 0 then 14 else 0 : Int) = if (getF now nm).isSome then 0 else 14 := by
  have h1 := find_iff h nm
  by_cases h2 : findI l nm < 0
  · have h3 : (getF now nm).isSome = false := by rw [h1]; simp; omega
    have h4 : getF now nm = none := by cases hg : getF now nm with | none => rfl | some v => rw [hg] at h3; cases h3
    simp [h2, h4]
  · have h3 : (getF now nm).isSome = true := by rw [h1]; simp; omega
    have h4 := atD_get h h3
    simp only [h2, if_false, h3, if_true]
    exact ⟨h4.2, trivial⟩
end Go.Ab.Sh
