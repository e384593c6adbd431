/- A part of the proofs that a law function returns true at every input; it has no condition of its own. -/
import Derived.Test.YtcljbddnnnbihaaShJ
set_option linter.unusedSimpArgs false
set_option linter.unusedVariables false
/- ShK: The shelf's contracts once more, without what the heap is else. -/
namespace Go.Ab.Sh
open Go Go.Conc Go.RowKit Go.Ab
/-- Nothing but these objects has turned. -/
def Fr (H H' : List HObj) (S : List Nat) : Prop := H.length ≤ H'.length ∧ ∀ j, j < H.length → j ∉ S → H'[j]? = H[j]?
theorem Fr.refl (H : List HObj) (S : List Nat) : Fr H H S := ⟨Nat.le_refl _, fun _ _ _ => rfl⟩
theorem Fr.trans {H H' H'' : List HObj} {S T : List Nat} (h : Fr H H' S) (k : Fr H' H'' T) : Fr H H'' (S ++ T) :=
  ⟨Nat.le_trans h.1 k.1, fun j hj hn => by rw [List.mem_append, not_or] at hn; rw [k.2 j (Nat.lt_of_lt_of_le hj h.1) hn.2, h.2 j hj hn.1]⟩
theorem Fr.mono {H H' : List HObj} {S T : List Nat} (h : Fr H H' S) (hs : ∀ j, j < H.length → j ∈ S → j ∈ T) : Fr H H' T := ⟨h.1, fun j hj hn => h.2 j hj fun hm => hn (hs j hj hm)⟩
theorem Fr.set {H : List HObj} (i : Nat) (x : HObj) : Fr H (H.set i x) [i] := ⟨by simp, fun j _ hn => hset_ne (by simpa [eq_comm] using hn)⟩
theorem Fr.app (H l : List HObj) : Fr H (H ++ l) [] := ⟨by simp, fun j hj _ => by rw [List.getElem?_append_left hj]⟩
section
variable {H H' : List HObj} {id k n : Nat} {kept now : Files} {acts : List Act} {room : Int}
theorem ShelfAt.lt (h : ShelfAt H id k n kept now acts room) : id < H.length ∧ k < H.length ∧ n < H.length ∧ id ≠ k ∧ id ≠ n := by
  obtain ⟨h1, h2, h3, h4⟩ := h
  refine ⟨(List.getElem?_eq_some_iff.1 h1).1, (List.getElem?_eq_some_iff.1 h2).1, (List.getElem?_eq_some_iff.1 h3).1, ?_, ?_⟩
  · rintro rfl; rw [h1] at h2; cases h2
  · rintro rfl; rw [h1] at h3; cases h3
theorem ShelfAt.fr {S : List Nat} (h : ShelfAt H id k n kept now acts room) (f : Fr H H' S) (h1 : id ∉ S) (h2 : k ∉ S) (h3 : n ∉ S) : ShelfAt H' id k n kept now acts room := by
  obtain ⟨a, b, c, _, _⟩ := h.lt
  exact ⟨(f.2 _ a h1).trans h.1, (f.2 _ b h2).trans h.2.1, (f.2 _ c h3).trans h.2.2.1, h.2.2.2⟩
theorem ShelfAt.done (a : Act) (h : ShelfAt H id k n kept now acts room) : ShelfAt (doneH H id k n now acts room a) id k n kept (doesF a now) (acts ++ [a]) room ∧ Fr H (doneH H id k n now acts room a) [id, n] := by
  obtain ⟨q1, q2, q3, q4, q5⟩ := h.lt
  have hkn := h.2.2.2
  refine ⟨⟨hset (j := 0) (by simpa using q1), ?_, ?_, hkn⟩, (Fr.set _ _).trans (Fr.set _ _) |>.mono (by simp; omega)⟩
  · exact (hset_ne q4).trans ((hset_ne hkn.symm).trans h.2.1)
  · exact (hset_ne q5).trans (hset (j := 0) q3)
variable {K : List HObj → DV → Prop}
/-- An act's outcome. -/
theorem ShelfAt.acted (a : Act) (c : Int) (h : ShelfAt H id k n kept now acts room)
    (hK : ∀ H', Fr H H' [id, n] → ShelfAt H' id k n kept (if c = 0 then doesF a now else now) (if c = 0 then acts ++ [a] else acts) room → K H' (.int .i64 c)) : K (if c = 0 then doneH H id k n now acts room a else H) (.int .i64 c) := by
  refine hK _ ?_ ?_
  · split
    · exact (h.done a).2
    · exact Fr.refl _ _
  · split
    · exact (h.done a).1
    · exact h
theorem capp12 {nm b : Str} (c : Int) (h1 : ShelfAt H id k n kept now acts room) (h2 : usedF now < 4611686018427387904) (h3 : 0 ≤ room) (h4 : room < 4611686018427387904) (h5 : acts.length < 100000) (h6 : nm.length < 4611686018427387904) (h7 : b.length < 4611686018427387904) (hc : putC now room nm b = c)
    (hK : ∀ H', Fr H H' [id, n] → ShelfAt H' id k n kept (if c = 0 then doesF ⟨1, nm, b⟩ now else now) (if c = 0 then acts ++ [⟨1, nm, b⟩] else acts) room → K H' (.int .i64 c)) : app S12 H [.ptr id 0, .str nm, .str b] K :=
  ⟨id, k, n, kept, now, acts, room, nm, b, rfl, h1, h2, h3, h4, h5, h6, h7, by rw [hc]; exact h1.acted _ c hK⟩
theorem capp14 {nm b : Str} (c : Int) (h1 : ShelfAt H id k n kept now acts room) (h2 : usedF now < 4611686018427387904) (h3 : 0 ≤ room) (h4 : room < 4611686018427387904) (h5 : acts.length < 100000) (h7 : b.length < 4611686018427387904) (hc : addC now room nm b = c)
    (hK : ∀ H', Fr H H' [id, n] → ShelfAt H' id k n kept (if c = 0 then doesF ⟨2, nm, b⟩ now else now) (if c = 0 then acts ++ [⟨2, nm, b⟩] else acts) room → K H' (.int .i64 c)) : app S14 H [.ptr id 0, .str nm, .str b] K :=
  ⟨id, k, n, kept, now, acts, room, nm, b, rfl, h1, h2, h3, h4, h5, h7, by rw [hc]; exact h1.acted _ c hK⟩
theorem capp16 {old nm : Str} (c : Int) (h1 : ShelfAt H id k n kept now acts room) (h2 : usedF now < 4611686018427387904) (h5 : acts.length < 100000) (h6 : nm.length < 4611686018427387904) (hc : swapC now old nm = c)
    (hK : ∀ H', Fr H H' [id, n] → ShelfAt H' id k n kept (if c = 0 then doesF ⟨3, old, nm⟩ now else now) (if c = 0 then acts ++ [⟨3, old, nm⟩] else acts) room → K H' (.int .i64 c)) : app S16 H [.ptr id 0, .str old, .str nm] K :=
  ⟨id, k, n, kept, now, acts, room, old, nm, rfl, h1, h2, h5, h6, by rw [hc]; exact h1.acted _ c hK⟩
theorem capp18 {nm : Str} (c : Int) (h1 : ShelfAt H id k n kept now acts room) (h2 : usedF now < 4611686018427387904) (h5 : acts.length < 100000) (hc : dropC now nm = c)
    (hK : ∀ H', Fr H H' [id, n] → ShelfAt H' id k n kept (if c = 0 then doesF ⟨4, nm, []⟩ now else now) (if c = 0 then acts ++ [⟨4, nm, []⟩] else acts) room → K H' (.int .i64 c)) : app S18 H [.ptr id 0, .str nm] K :=
  ⟨id, k, n, kept, now, acts, room, nm, rfl, h1, h2, h5, by rw [hc]; exact h1.acted _ c hK⟩
theorem capp22 {v : Int} (h1 : ShelfAt H id k n kept now acts room) (hK : ∀ H', Fr H H' [id] → ShelfAt H' id k n kept now acts (min (max v 0) 1000000) → K H' (.tup [])) : app S22 H [.ptr id 0, .int .i64 v] K := by
  obtain ⟨q1, q2, q3, q4, q5⟩ := h1.lt
  exact app22 h1 (hK _ (Fr.set _ _) ⟨hset (j := 0) q1, (hset_ne q4).trans h1.2.1, (hset_ne q5).trans h1.2.2.1, h1.2.2.2⟩)
theorem capp10 {v : Int} (hK : ∀ H', Fr H H' [] → H.length + 3 ≤ H'.length → ShelfAt H' (H.length + 2) H.length (H.length + 1) [] [] [] (min (max v 0) 1000000) → K H' (.ptr (H.length + 2) 0)) : app S10 H [.int .i64 v] K :=
  ⟨v, rfl, hK _ (Fr.app _ _) (by simp) ⟨by simp, by simp [enc], by simp [enc], by omega⟩⟩
theorem capp26 (h1 : ShelfAt H id k n kept now acts room) (h2 : acts.length < 100000) (hK : ∀ H', Fr H H' [] → H.length + 3 ≤ H'.length → ShelfAt H' (H.length + 2) H.length (H.length + 1) kept now acts room → K H' (.ptr (H.length + 2) 0)) : app S26 H [.ptr id 0] K :=
  ⟨id, k, n, kept, now, acts, room, rfl, h1, h2, hK _ (Fr.app _ _) (by simp [copyH]) ⟨by simp [copyH], by simp [copyH], by simp [copyH], by omega⟩⟩
theorem capp20 (h1 : ShelfAt H id k n kept now acts room) (hK : ∀ H', Fr H H' [id] → H.length + 1 ≤ H'.length → ShelfAt H' id H.length n now now [] room → K H' (.tup [])) : app S20 H [.ptr id 0] K := by
  obtain ⟨q1, q2, q3, q4, q5⟩ := h1.lt
  refine ⟨id, k, n, kept, now, acts, room, rfl, h1, hK _ (((Fr.app _ _).trans (Fr.set _ _)).mono (by simp)) (by simp) ⟨hset (j := 0) (by rw [List.length_append]; omega), ?_, ?_, by omega⟩⟩
  · exact (hset_ne (by omega)).trans (by simp)
  · exact (hset_ne q5).trans (by rw [List.getElem?_append_left q3]; exact h1.2.2.1)
theorem capp24 {x y : Int} (F : Files) (h1 : ShelfAt H id k n kept now acts room) (h2 : acts.length < 100000) (h3 : usedF kept + sumB acts < 4611686018427387904) (hF : crashF (min (max x 0) acts.length).toNat (max y 0).toNat acts kept = F)
    (hK : ∀ H', Fr H H' [id, k] → H.length + 1 ≤ H'.length → ShelfAt H' id k H.length F F [] room → K H' (.tup [])) : app S24 H [.ptr id 0, .int .i64 x, .int .i64 y] K := by
  obtain ⟨q1, q2, q3, q4, q5⟩ := h1.lt
  refine ⟨id, k, n, kept, now, acts, room, x, y, rfl, h1, h2, h3, ?_⟩
  rw [hF]
  refine hK _ ((((Fr.set k _).trans (Fr.app _ _)).trans (Fr.set _ _)).mono (by simp; omega)) (by simp) ⟨hset (j := 0) (by simp; omega), ?_, ?_, by omega⟩
  · exact (hset_ne q4).trans (by rw [List.getElem?_append_left (by simpa using q2)]; exact hset (j := 0) q2)
  · exact (hset_ne (by omega)).trans (by simp)
theorem capp27 {nm : Str} (h1 : ShelfAt H id k n kept now acts room) (hK : K H (.tup [.str ((getF now nm).getD []), .int .i64 (if (getF now nm).isSome then 0 else 14)])) : app S27 H [.ptr id 0, .str nm] K := ⟨id, k, n, kept, now, acts, room, nm, rfl, h1, hK⟩
theorem capp27v {nm : Str} (v : Str) (e : Int) (h1 : ShelfAt H id k n kept now acts room) (hv : (getF now nm).getD [] = v) (he : (if (getF now nm).isSome then 0 else 14 : Int) = e) (hK : K H (.tup [.str v, .int .i64 e])) : app S27 H [.ptr id 0, .str nm] K := capp27 h1 (by rw [hv, he]; exact hK)
theorem capp30v (m : Int) (h1 : ShelfAt H id k n kept now acts room) (hm : (acts.length : Int) = m) (hK : K H (.int .i64 m)) : app S30 H [.ptr id 0] K := ⟨id, k, n, kept, now, acts, room, rfl, h1, by rw [hm]; exact hK⟩
theorem capp32v (m : Int) (h1 : ShelfAt H id k n kept now acts room) (h2 : usedF now < 4611686018427387904) (hm : (usedF now : Int) = m) (hK : K H (.int .i64 m)) : app S32 H [.ptr id 0] K := app32 h1 h2 (by rw [hm]; exact hK)
theorem capp33v (m : Int) (h1 : ShelfAt H id k n kept now acts room) (h2 : usedF now < 4611686018427387904) (h3 : 0 ≤ room) (h4 : room < 4611686018427387904) (hm : max (room - usedF now) 0 = m) (hK : K H (.int .i64 m)) : app S33 H [.ptr id 0] K := app33 h1 h2 h3 h4 (by rw [hm]; exact hK)
theorem capp30 (h1 : ShelfAt H id k n kept now acts room) (hK : K H (.int .i64 acts.length)) : app S30 H [.ptr id 0] K := ⟨id, k, n, kept, now, acts, room, rfl, h1, hK⟩
end
theorem rcs32 : RC (loneJ pp) 32 S32 := rc32 (fun _ _ => trivial) rc48
theorem rcs33 : RC (loneJ pp) 33 S33 := rc33 (fun _ _ => trivial) rcs32
theorem rcs12 : RC (loneJ pp) 12 S12 := rc12 (fun _ _ => trivial) rcs33
theorem rcs14 : RC (loneJ pp) 14 S14 := rc14 (fun _ _ => trivial) rcs33
theorem rcs16 : RC (loneJ pp) 16 S16 := rc16 (fun _ _ => trivial)
theorem rcs18 : RC (loneJ pp) 18 S18 := rc18 (fun _ _ => trivial)
theorem rcs20 : RC (loneJ pp) 20 S20 := rc20 (fun _ _ => trivial) rc41
theorem rcs22 : RC (loneJ pp) 22 S22 := rc22 (fun _ _ => trivial)
theorem rcs24 : RC (loneJ pp) 24 S24 := rc24 (fun _ _ => trivial) rc41
theorem rcs26 : RC (loneJ pp) 26 S26 := rc26 (fun _ _ => trivial) rc41
theorem rcs27 : RC (loneJ pp) 27 S27 := rc27 (fun _ _ => trivial)
theorem rcs30 : RC (loneJ pp) 30 S30 := rc30 (fun _ _ => trivial)
theorem rcs10 : RC (loneJ pp) 10 S10 := rc10 (fun _ _ => trivial)
end Go.Ab.Sh
