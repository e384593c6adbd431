/- A part of the proofs that a law function returns true at every input; it has no condition of its own. -/
import Derived.Test.YtefaplodmbdhlaaAbL5
set_option linter.unusedSimpArgs false
set_option linter.unusedVariables false
/- AbF: Rows of texts by texts, as maps hold them; frames of heaps. -/
namespace Go.Ab
open Go Go.Conc Go.RowKit
abbrev Str := List UInt8
abbrev Files := List (Str × Str)
def enc (fs : Files) : List (DV × DV) := fs.map fun x => (.str x.1, .str x.2)
def getF (fs : Files) (k : Str) : Option Str := match fs with
  | [] => none
  | (x, v) :: r => if k = x then some v else getF r k
def setF (k v : Str) : Files → Files
  | [] => [(k, v)]
  | (x, u) :: r => if k = x then (k, v) :: r else (x, u) :: setF k v r
def delF (k : Str) : Files → Files
  | [] => []
  | (x, u) :: r => if k = x then r else (x, u) :: delF k r
theorem find_enc (k : Str) : ∀ fs, findKeyD (.str k) (enc fs) = some ((getF fs k).map .str)
  | [] => rfl
  | (x, v) :: r => by
    have := find_enc k r
    simp only [enc, List.map_cons, findKeyD, keyEq, getF] at this ⊢
    by_cases h : k = x
    · simp [h]
    · simp [h]; assumption
theorem set_enc (k v : Str) : ∀ fs, mapSet (.str k) (.str v) (enc fs) = enc (setF k v fs)
  | [] => rfl
  | (x, u) :: r => by
    have := set_enc k v r
    simp only [enc, List.map_cons, mapSet, keyEq, setF] at this ⊢
    by_cases h : k = x
    · simp [h]
    · simp [h]; assumption
theorem del_enc (k : Str) : ∀ fs, mapDel (.str k) (enc fs) = enc (delF k fs)
  | [] => rfl
  | (x, u) :: r => by
    have := del_enc k r
    simp only [enc, List.map_cons, mapDel, keyEq, delF] at this ⊢
    by_cases h : k = x
    · simp [h]
    · simp [h]; assumption
theorem all_enc (k : Str) (fs : Files) : ((enc fs).all fun e => (keyEq (.str k) e.1).isSome) = true := by
  simp [enc, List.all_eq_true, keyEq]
theorem enc_length (fs : Files) : (enc fs).length = fs.length := by simp [enc]

theorem hset {H : List HObj} {i : Nat} {x : HObj} (h : i < H.length) : (H.set i x)[i]? = some x := by simp [h]
theorem hset_ne {H : List HObj} {i j : Nat} {x : HObj} (h : i ≠ j) : (H.set i x)[j]? = H[j]? := List.getElem?_set_ne h
/-- Nothing but these objects has turned. -/
def Fr (H H' : List HObj) (S : List Nat) : Prop := H.length ≤ H'.length ∧ ∀ j, j < H.length → j ∉ S → H'[j]? = H[j]?
theorem Fr.refl (H : List HObj) (S : List Nat) : Fr H H S := ⟨Nat.le_refl _, fun _ _ _ => rfl⟩
theorem Fr.trans {H H' H'' : List HObj} {S T : List Nat} (h : Fr H H' S) (k : Fr H' H'' T) : Fr H H'' (S ++ T) :=
  ⟨Nat.le_trans h.1 k.1, fun j hj hn => by rw [List.mem_append, not_or] at hn; rw [k.2 j (Nat.lt_of_lt_of_le hj h.1) hn.2, h.2 j hj hn.1]⟩
theorem Fr.mono {H H' : List HObj} {S T : List Nat} (h : Fr H H' S) (hs : ∀ j, j < H.length → j ∈ S → j ∈ T) : Fr H H' T := ⟨h.1, fun j hj hn => h.2 j hj fun hm => hn (hs j hj hm)⟩
theorem Fr.set {H : List HObj} (i : Nat) (x : HObj) : Fr H (H.set i x) [i] := ⟨by simp, fun j _ hn => hset_ne (by simpa [eq_comm] using hn)⟩
theorem Fr.app (H l : List HObj) : Fr H (H ++ l) [] := ⟨by simp, fun j hj _ => by rw [List.getElem?_append_left hj]⟩
theorem Fr.get {H H' : List HObj} {S : List Nat} {i : Nat} {x : HObj} (f : Fr H H' S) (h : H[i]? = some x) (hn : i ∉ S) : H'[i]? = some x := (f.2 i (List.getElem?_eq_some_iff.1 h).1 hn).trans h
end Go.Ab
