/- A part of the proofs that a law function returns true at every input; it has no condition of its own. -/
import Derived.Test.YtcljbddnnnbihaaShT
set_option linter.unusedSimpArgs false
set_option linter.unusedVariables false
/- ShE: The shelf laws: how files lie in abstract maps; contracts' words. -/
namespace Go.Ab.Sh
open Go Go.Conc Go.RowKit Go.Ab
abbrev Str := List UInt8
abbrev Files := List (Str × Str)
def enc (fs : Files) : List (DV × DV) := fs.map fun x => (.str x.1, .str x.2)
def getF (fs : Files) (k : Str) : Option Str := match fs with
  | [] => none
  | (x, v) :: r => if k = x then some v else getF r k
def setF (k v : Str) : Files → Files
  | [] => [(k, v)]
  | (x, u) :: r => if k = x then (k, v) :: r else (x, u) :: setF k v r
def delF (k : Str) : Files → Files
  | [] => []
  | (x, u) :: r => if k = x then r else (x, u) :: delF k r
theorem find_enc (k : Str) : ∀ fs, findKeyD (.str k) (enc fs) = some ((getF fs k).map .str)
  | [] => rfl
  | (x, v) :: r => by
    have := find_enc k r
    simp only [enc, List.map_cons, findKeyD, keyEq, getF] at this ⊢
    by_cases h : k = x
    · simp [h]
    · simp [h]; assumption
theorem set_enc (k v : Str) : ∀ fs, mapSet (.str k) (.str v) (enc fs) = enc (setF k v fs)
  | [] => rfl
  | (x, u) :: r => by
    have := set_enc k v r
    simp only [enc, List.map_cons, mapSet, keyEq, setF] at this ⊢
    by_cases h : k = x
    · simp [h]
    · simp [h]; assumption
theorem del_enc (k : Str) : ∀ fs, mapDel (.str k) (enc fs) = enc (delF k fs)
  | [] => rfl
  | (x, u) :: r => by
    have := del_enc k r
    simp only [enc, List.map_cons, mapDel, keyEq, delF] at this ⊢
    by_cases h : k = x
    · simp [h]
    · simp [h]; assumption
theorem all_enc (k : Str) (fs : Files) : ((enc fs).all fun e => (keyEq (.str k) e.1).isSome) = true := by
  simp [enc, List.all_eq_true, keyEq]
theorem enc_length (fs : Files) : (enc fs).length = fs.length := by simp [enc]

structure Act where
  kind : Int
  name : Str
  b : Str
def actD (a : Act) : DV := .agg [.int .i64 a.kind, .str a.name, .str a.b]
def shelfC (k n : Nat) (acts : List Act) (room : Int) : List DV := [.map k, .map n, .sl true 3 (acts.map actD), .int .i64 room]
/-- A shelf in the heap. -/
def ShelfAt (H : List HObj) (id k n : Nat) (kept now : Files) (acts : List Act) (room : Int) : Prop :=
  H[id]? = some (.cells (shelfC k n acts room)) ∧ H[k]? = some (.map (enc kept)) ∧ H[n]? = some (.map (enc now)) ∧ k ≠ n

theorem u9 : pp.underlying 9 = some .string := Go.Proofs.Try.underlying9
theorem fp57_0 {i o : Nat} {K : DV → Prop} : dfieldAddr pp 57 (.ptr i o) 0 K = K (.ptr i (o + 0)) := by
  have h := fa_ptr (P := pp) (K := K) (i := i) (o := o) Go.Proofs.Try.underlying57 (f := 0) rfl
  exact h (by show pp.cellsOf 54 ≠ 0; rw [cn54]; decide)
theorem fl57_0 {s g o : Nat} {K : DV → Prop} : dfieldAddr pp 57 (.lptr s g o) 0 K = K (.lptr s g (o + 0)) := by
  have h := fa_lptr (P := pp) (K := K) (s := s) (g := g) (o := o) Go.Proofs.Try.underlying57 (f := 0) rfl
  exact h (by show pp.cellsOf 54 ≠ 0; rw [cn54]; decide)
theorem fv57_0 {cs : List DV} {K : DV → Prop} : dfieldAddr pp 57 (.vptr cs) 0 K = K (.vptr (cs.drop 0)) := by
  have h := fa_vptr (P := pp) (K := K) (cs := cs) Go.Proofs.Try.underlying57 (f := 0) rfl
  exact h (by show pp.cellsOf 54 ≠ 0; rw [cn54]; decide)
theorem fp57_1 {i o : Nat} {K : DV → Prop} : dfieldAddr pp 57 (.ptr i o) 1 K = K (.ptr i (o + 1)) := by
  have h := fa_ptr (P := pp) (K := K) (i := i) (o := o) Go.Proofs.Try.underlying57 (f := 1) rfl
  exact h (by show pp.cellsOf 54 ≠ 0; rw [cn54]; decide)
theorem fl57_1 {s g o : Nat} {K : DV → Prop} : dfieldAddr pp 57 (.lptr s g o) 1 K = K (.lptr s g (o + 1)) := by
  have h := fa_lptr (P := pp) (K := K) (s := s) (g := g) (o := o) Go.Proofs.Try.underlying57 (f := 1) rfl
  exact h (by show pp.cellsOf 54 ≠ 0; rw [cn54]; decide)
theorem fv57_1 {cs : List DV} {K : DV → Prop} : dfieldAddr pp 57 (.vptr cs) 1 K = K (.vptr (cs.drop 1)) := by
  have h := fa_vptr (P := pp) (K := K) (cs := cs) Go.Proofs.Try.underlying57 (f := 1) rfl
  exact h (by show pp.cellsOf 54 ≠ 0; rw [cn54]; decide)
theorem fp57_2 {i o : Nat} {K : DV → Prop} : dfieldAddr pp 57 (.ptr i o) 2 K = K (.ptr i (o + 2)) := by
  have h := fa_ptr (P := pp) (K := K) (i := i) (o := o) Go.Proofs.Try.underlying57 (f := 2) rfl
  exact h (by show pp.cellsOf 55 ≠ 0; rw [cn55]; decide)
theorem fl57_2 {s g o : Nat} {K : DV → Prop} : dfieldAddr pp 57 (.lptr s g o) 2 K = K (.lptr s g (o + 2)) := by
  have h := fa_lptr (P := pp) (K := K) (s := s) (g := g) (o := o) Go.Proofs.Try.underlying57 (f := 2) rfl
  exact h (by show pp.cellsOf 55 ≠ 0; rw [cn55]; decide)
theorem fv57_2 {cs : List DV} {K : DV → Prop} : dfieldAddr pp 57 (.vptr cs) 2 K = K (.vptr (cs.drop 2)) := by
  have h := fa_vptr (P := pp) (K := K) (cs := cs) Go.Proofs.Try.underlying57 (f := 2) rfl
  exact h (by show pp.cellsOf 55 ≠ 0; rw [cn55]; decide)
theorem fp57_3 {i o : Nat} {K : DV → Prop} : dfieldAddr pp 57 (.ptr i o) 3 K = K (.ptr i (o + 3)) := by
  have h := fa_ptr (P := pp) (K := K) (i := i) (o := o) Go.Proofs.Try.underlying57 (f := 3) rfl
  exact h (by show pp.cellsOf 3 ≠ 0; rw [cn3]; decide)
theorem fl57_3 {s g o : Nat} {K : DV → Prop} : dfieldAddr pp 57 (.lptr s g o) 3 K = K (.lptr s g (o + 3)) := by
  have h := fa_lptr (P := pp) (K := K) (s := s) (g := g) (o := o) Go.Proofs.Try.underlying57 (f := 3) rfl
  exact h (by show pp.cellsOf 3 ≠ 0; rw [cn3]; decide)
theorem fv57_3 {cs : List DV} {K : DV → Prop} : dfieldAddr pp 57 (.vptr cs) 3 K = K (.vptr (cs.drop 3)) := by
  have h := fa_vptr (P := pp) (K := K) (cs := cs) Go.Proofs.Try.underlying57 (f := 3) rfl
  exact h (by show pp.cellsOf 3 ≠ 0; rw [cn3]; decide)
theorem fp61_0 {i o : Nat} {K : DV → Prop} : dfieldAddr pp 61 (.ptr i o) 0 K = K (.ptr i (o + 0)) := by
  have h := fa_ptr (P := pp) (K := K) (i := i) (o := o) Go.Proofs.Try.underlying61 (f := 0) rfl
  exact h (by show pp.cellsOf 58 ≠ 0; rw [cn58]; decide)
theorem fl61_0 {s g o : Nat} {K : DV → Prop} : dfieldAddr pp 61 (.lptr s g o) 0 K = K (.lptr s g (o + 0)) := by
  have h := fa_lptr (P := pp) (K := K) (s := s) (g := g) (o := o) Go.Proofs.Try.underlying61 (f := 0) rfl
  exact h (by show pp.cellsOf 58 ≠ 0; rw [cn58]; decide)
theorem fv61_0 {cs : List DV} {K : DV → Prop} : dfieldAddr pp 61 (.vptr cs) 0 K = K (.vptr (cs.drop 0)) := by
  have h := fa_vptr (P := pp) (K := K) (cs := cs) Go.Proofs.Try.underlying61 (f := 0) rfl
  exact h (by show pp.cellsOf 58 ≠ 0; rw [cn58]; decide)
theorem fp61_1 {i o : Nat} {K : DV → Prop} : dfieldAddr pp 61 (.ptr i o) 1 K = K (.ptr i (o + 1)) := by
  have h := fa_ptr (P := pp) (K := K) (i := i) (o := o) Go.Proofs.Try.underlying61 (f := 1) rfl
  exact h (by show pp.cellsOf 58 ≠ 0; rw [cn58]; decide)
theorem fl61_1 {s g o : Nat} {K : DV → Prop} : dfieldAddr pp 61 (.lptr s g o) 1 K = K (.lptr s g (o + 1)) := by
  have h := fa_lptr (P := pp) (K := K) (s := s) (g := g) (o := o) Go.Proofs.Try.underlying61 (f := 1) rfl
  exact h (by show pp.cellsOf 58 ≠ 0; rw [cn58]; decide)
theorem fv61_1 {cs : List DV} {K : DV → Prop} : dfieldAddr pp 61 (.vptr cs) 1 K = K (.vptr (cs.drop 1)) := by
  have h := fa_vptr (P := pp) (K := K) (cs := cs) Go.Proofs.Try.underlying61 (f := 1) rfl
  exact h (by show pp.cellsOf 58 ≠ 0; rw [cn58]; decide)
theorem fp61_2 {i o : Nat} {K : DV → Prop} : dfieldAddr pp 61 (.ptr i o) 2 K = K (.ptr i (o + 2)) := by
  have h := fa_ptr (P := pp) (K := K) (i := i) (o := o) Go.Proofs.Try.underlying61 (f := 2) rfl
  exact h (by show pp.cellsOf 59 ≠ 0; rw [cn59]; decide)
theorem fl61_2 {s g o : Nat} {K : DV → Prop} : dfieldAddr pp 61 (.lptr s g o) 2 K = K (.lptr s g (o + 2)) := by
  have h := fa_lptr (P := pp) (K := K) (s := s) (g := g) (o := o) Go.Proofs.Try.underlying61 (f := 2) rfl
  exact h (by show pp.cellsOf 59 ≠ 0; rw [cn59]; decide)
theorem fv61_2 {cs : List DV} {K : DV → Prop} : dfieldAddr pp 61 (.vptr cs) 2 K = K (.vptr (cs.drop 2)) := by
  have h := fa_vptr (P := pp) (K := K) (cs := cs) Go.Proofs.Try.underlying61 (f := 2) rfl
  exact h (by show pp.cellsOf 59 ≠ 0; rw [cn59]; decide)
theorem fp61_3 {i o : Nat} {K : DV → Prop} : dfieldAddr pp 61 (.ptr i o) 3 K = K (.ptr i (o + 3)) := by
  have h := fa_ptr (P := pp) (K := K) (i := i) (o := o) Go.Proofs.Try.underlying61 (f := 3) rfl
  exact h (by show pp.cellsOf 3 ≠ 0; rw [cn3]; decide)
theorem fl61_3 {s g o : Nat} {K : DV → Prop} : dfieldAddr pp 61 (.lptr s g o) 3 K = K (.lptr s g (o + 3)) := by
  have h := fa_lptr (P := pp) (K := K) (s := s) (g := g) (o := o) Go.Proofs.Try.underlying61 (f := 3) rfl
  exact h (by show pp.cellsOf 3 ≠ 0; rw [cn3]; decide)
theorem fv61_3 {cs : List DV} {K : DV → Prop} : dfieldAddr pp 61 (.vptr cs) 3 K = K (.vptr (cs.drop 3)) := by
  have h := fa_vptr (P := pp) (K := K) (cs := cs) Go.Proofs.Try.underlying61 (f := 3) rfl
  exact h (by show pp.cellsOf 3 ≠ 0; rw [cn3]; decide)
theorem fp65_0 {i o : Nat} {K : DV → Prop} : dfieldAddr pp 65 (.ptr i o) 0 K = K (.ptr i (o + 0)) := by
  have h := fa_ptr (P := pp) (K := K) (i := i) (o := o) Go.Proofs.Try.underlying65 (f := 0) rfl
  exact h (by show pp.cellsOf 3 ≠ 0; rw [cn3]; decide)
theorem fl65_0 {s g o : Nat} {K : DV → Prop} : dfieldAddr pp 65 (.lptr s g o) 0 K = K (.lptr s g (o + 0)) := by
  have h := fa_lptr (P := pp) (K := K) (s := s) (g := g) (o := o) Go.Proofs.Try.underlying65 (f := 0) rfl
  exact h (by show pp.cellsOf 3 ≠ 0; rw [cn3]; decide)
theorem fv65_0 {cs : List DV} {K : DV → Prop} : dfieldAddr pp 65 (.vptr cs) 0 K = K (.vptr (cs.drop 0)) := by
  have h := fa_vptr (P := pp) (K := K) (cs := cs) Go.Proofs.Try.underlying65 (f := 0) rfl
  exact h (by show pp.cellsOf 3 ≠ 0; rw [cn3]; decide)
theorem fp65_1 {i o : Nat} {K : DV → Prop} : dfieldAddr pp 65 (.ptr i o) 1 K = K (.ptr i (o + 1)) := by
  have h := fa_ptr (P := pp) (K := K) (i := i) (o := o) Go.Proofs.Try.underlying65 (f := 1) rfl
  exact h (by show pp.cellsOf 9 ≠ 0; rw [cn9]; decide)
theorem fl65_1 {s g o : Nat} {K : DV → Prop} : dfieldAddr pp 65 (.lptr s g o) 1 K = K (.lptr s g (o + 1)) := by
  have h := fa_lptr (P := pp) (K := K) (s := s) (g := g) (o := o) Go.Proofs.Try.underlying65 (f := 1) rfl
  exact h (by show pp.cellsOf 9 ≠ 0; rw [cn9]; decide)
theorem fv65_1 {cs : List DV} {K : DV → Prop} : dfieldAddr pp 65 (.vptr cs) 1 K = K (.vptr (cs.drop 1)) := by
  have h := fa_vptr (P := pp) (K := K) (cs := cs) Go.Proofs.Try.underlying65 (f := 1) rfl
  exact h (by show pp.cellsOf 9 ≠ 0; rw [cn9]; decide)
theorem fp65_2 {i o : Nat} {K : DV → Prop} : dfieldAddr pp 65 (.ptr i o) 2 K = K (.ptr i (o + 2)) := by
  have h := fa_ptr (P := pp) (K := K) (i := i) (o := o) Go.Proofs.Try.underlying65 (f := 2) rfl
  exact h (by show pp.cellsOf 9 ≠ 0; rw [cn9]; decide)
theorem fl65_2 {s g o : Nat} {K : DV → Prop} : dfieldAddr pp 65 (.lptr s g o) 2 K = K (.lptr s g (o + 2)) := by
  have h := fa_lptr (P := pp) (K := K) (s := s) (g := g) (o := o) Go.Proofs.Try.underlying65 (f := 2) rfl
  exact h (by show pp.cellsOf 9 ≠ 0; rw [cn9]; decide)
theorem fv65_2 {cs : List DV} {K : DV → Prop} : dfieldAddr pp 65 (.vptr cs) 2 K = K (.vptr (cs.drop 2)) := by
  have h := fa_vptr (P := pp) (K := K) (cs := cs) Go.Proofs.Try.underlying65 (f := 2) rfl
  exact h (by show pp.cellsOf 9 ≠ 0; rw [cn9]; decide)
theorem fp69_0 {i o : Nat} {K : DV → Prop} : dfieldAddr pp 69 (.ptr i o) 0 K = K (.ptr i (o + 0)) := by
  have h := fa_ptr (P := pp) (K := K) (i := i) (o := o) Go.Proofs.Try.underlying69 (f := 0) rfl
  exact h (by show pp.cellsOf 3 ≠ 0; rw [cn3]; decide)
theorem fl69_0 {s g o : Nat} {K : DV → Prop} : dfieldAddr pp 69 (.lptr s g o) 0 K = K (.lptr s g (o + 0)) := by
  have h := fa_lptr (P := pp) (K := K) (s := s) (g := g) (o := o) Go.Proofs.Try.underlying69 (f := 0) rfl
  exact h (by show pp.cellsOf 3 ≠ 0; rw [cn3]; decide)
theorem fv69_0 {cs : List DV} {K : DV → Prop} : dfieldAddr pp 69 (.vptr cs) 0 K = K (.vptr (cs.drop 0)) := by
  have h := fa_vptr (P := pp) (K := K) (cs := cs) Go.Proofs.Try.underlying69 (f := 0) rfl
  exact h (by show pp.cellsOf 3 ≠ 0; rw [cn3]; decide)
theorem fp69_1 {i o : Nat} {K : DV → Prop} : dfieldAddr pp 69 (.ptr i o) 1 K = K (.ptr i (o + 1)) := by
  have h := fa_ptr (P := pp) (K := K) (i := i) (o := o) Go.Proofs.Try.underlying69 (f := 1) rfl
  exact h (by show pp.cellsOf 9 ≠ 0; rw [cn9]; decide)
theorem fl69_1 {s g o : Nat} {K : DV → Prop} : dfieldAddr pp 69 (.lptr s g o) 1 K = K (.lptr s g (o + 1)) := by
  have h := fa_lptr (P := pp) (K := K) (s := s) (g := g) (o := o) Go.Proofs.Try.underlying69 (f := 1) rfl
  exact h (by show pp.cellsOf 9 ≠ 0; rw [cn9]; decide)
theorem fv69_1 {cs : List DV} {K : DV → Prop} : dfieldAddr pp 69 (.vptr cs) 1 K = K (.vptr (cs.drop 1)) := by
  have h := fa_vptr (P := pp) (K := K) (cs := cs) Go.Proofs.Try.underlying69 (f := 1) rfl
  exact h (by show pp.cellsOf 9 ≠ 0; rw [cn9]; decide)
theorem fp69_2 {i o : Nat} {K : DV → Prop} : dfieldAddr pp 69 (.ptr i o) 2 K = K (.ptr i (o + 2)) := by
  have h := fa_ptr (P := pp) (K := K) (i := i) (o := o) Go.Proofs.Try.underlying69 (f := 2) rfl
  exact h (by show pp.cellsOf 9 ≠ 0; rw [cn9]; decide)
theorem fl69_2 {s g o : Nat} {K : DV → Prop} : dfieldAddr pp 69 (.lptr s g o) 2 K = K (.lptr s g (o + 2)) := by
  have h := fa_lptr (P := pp) (K := K) (s := s) (g := g) (o := o) Go.Proofs.Try.underlying69 (f := 2) rfl
  exact h (by show pp.cellsOf 9 ≠ 0; rw [cn9]; decide)
theorem fv69_2 {cs : List DV} {K : DV → Prop} : dfieldAddr pp 69 (.vptr cs) 2 K = K (.vptr (cs.drop 2)) := by
  have h := fa_vptr (P := pp) (K := K) (cs := cs) Go.Proofs.Try.underlying69 (f := 2) rfl
  exact h (by show pp.cellsOf 9 ≠ 0; rw [cn9]; decide)
theorem fp75_0 {i o : Nat} {K : DV → Prop} : dfieldAddr pp 75 (.ptr i o) 0 K = K (.ptr i (o + 0)) := by
  have h := fa_ptr (P := pp) (K := K) (i := i) (o := o) Go.Proofs.Try.underlying75 (f := 0) rfl
  exact h (by show pp.cellsOf 9 ≠ 0; rw [cn9]; decide)
theorem fl75_0 {s g o : Nat} {K : DV → Prop} : dfieldAddr pp 75 (.lptr s g o) 0 K = K (.lptr s g (o + 0)) := by
  have h := fa_lptr (P := pp) (K := K) (s := s) (g := g) (o := o) Go.Proofs.Try.underlying75 (f := 0) rfl
  exact h (by show pp.cellsOf 9 ≠ 0; rw [cn9]; decide)
theorem fv75_0 {cs : List DV} {K : DV → Prop} : dfieldAddr pp 75 (.vptr cs) 0 K = K (.vptr (cs.drop 0)) := by
  have h := fa_vptr (P := pp) (K := K) (cs := cs) Go.Proofs.Try.underlying75 (f := 0) rfl
  exact h (by show pp.cellsOf 9 ≠ 0; rw [cn9]; decide)
theorem fp75_1 {i o : Nat} {K : DV → Prop} : dfieldAddr pp 75 (.ptr i o) 1 K = K (.ptr i (o + 1)) := by
  have h := fa_ptr (P := pp) (K := K) (i := i) (o := o) Go.Proofs.Try.underlying75 (f := 1) rfl
  exact h (by show pp.cellsOf 9 ≠ 0; rw [cn9]; decide)
theorem fl75_1 {s g o : Nat} {K : DV → Prop} : dfieldAddr pp 75 (.lptr s g o) 1 K = K (.lptr s g (o + 1)) := by
  have h := fa_lptr (P := pp) (K := K) (s := s) (g := g) (o := o) Go.Proofs.Try.underlying75 (f := 1) rfl
  exact h (by show pp.cellsOf 9 ≠ 0; rw [cn9]; decide)
theorem fv75_1 {cs : List DV} {K : DV → Prop} : dfieldAddr pp 75 (.vptr cs) 1 K = K (.vptr (cs.drop 1)) := by
  have h := fa_vptr (P := pp) (K := K) (cs := cs) Go.Proofs.Try.underlying75 (f := 1) rfl
  exact h (by show pp.cellsOf 9 ≠ 0; rw [cn9]; decide)
theorem fp31_0 {i o : Nat} {K : DV → Prop} : dfieldAddr pp 31 (.ptr i o) 0 K = K (.ptr i (o + 0)) := by
  have h := fa_ptr (P := pp) (K := K) (i := i) (o := o) Go.Proofs.Try.underlying31 (f := 0) rfl
  exact h (by show pp.cellsOf 3 ≠ 0; rw [cn3]; decide)
theorem fl31_0 {s g o : Nat} {K : DV → Prop} : dfieldAddr pp 31 (.lptr s g o) 0 K = K (.lptr s g (o + 0)) := by
  have h := fa_lptr (P := pp) (K := K) (s := s) (g := g) (o := o) Go.Proofs.Try.underlying31 (f := 0) rfl
  exact h (by show pp.cellsOf 3 ≠ 0; rw [cn3]; decide)
theorem fv31_0 {cs : List DV} {K : DV → Prop} : dfieldAddr pp 31 (.vptr cs) 0 K = K (.vptr (cs.drop 0)) := by
  have h := fa_vptr (P := pp) (K := K) (cs := cs) Go.Proofs.Try.underlying31 (f := 0) rfl
  exact h (by show pp.cellsOf 3 ≠ 0; rw [cn3]; decide)
theorem fp31_1 {i o : Nat} {K : DV → Prop} : dfieldAddr pp 31 (.ptr i o) 1 K = K (.ptr i (o + 1)) := by
  have h := fa_ptr (P := pp) (K := K) (i := i) (o := o) Go.Proofs.Try.underlying31 (f := 1) rfl
  exact h (by show pp.cellsOf 3 ≠ 0; rw [cn3]; decide)
theorem fl31_1 {s g o : Nat} {K : DV → Prop} : dfieldAddr pp 31 (.lptr s g o) 1 K = K (.lptr s g (o + 1)) := by
  have h := fa_lptr (P := pp) (K := K) (s := s) (g := g) (o := o) Go.Proofs.Try.underlying31 (f := 1) rfl
  exact h (by show pp.cellsOf 3 ≠ 0; rw [cn3]; decide)
theorem fv31_1 {cs : List DV} {K : DV → Prop} : dfieldAddr pp 31 (.vptr cs) 1 K = K (.vptr (cs.drop 1)) := by
  have h := fa_vptr (P := pp) (K := K) (cs := cs) Go.Proofs.Try.underlying31 (f := 1) rfl
  exact h (by show pp.cellsOf 3 ≠ 0; rw [cn3]; decide)
theorem fp31_2 {i o : Nat} {K : DV → Prop} : dfieldAddr pp 31 (.ptr i o) 2 K = K (.ptr i (o + 2)) := by
  have h := fa_ptr (P := pp) (K := K) (i := i) (o := o) Go.Proofs.Try.underlying31 (f := 2) rfl
  exact h (by show pp.cellsOf 3 ≠ 0; rw [cn3]; decide)
theorem fl31_2 {s g o : Nat} {K : DV → Prop} : dfieldAddr pp 31 (.lptr s g o) 2 K = K (.lptr s g (o + 2)) := by
  have h := fa_lptr (P := pp) (K := K) (s := s) (g := g) (o := o) Go.Proofs.Try.underlying31 (f := 2) rfl
  exact h (by show pp.cellsOf 3 ≠ 0; rw [cn3]; decide)
theorem fv31_2 {cs : List DV} {K : DV → Prop} : dfieldAddr pp 31 (.vptr cs) 2 K = K (.vptr (cs.drop 2)) := by
  have h := fa_vptr (P := pp) (K := K) (cs := cs) Go.Proofs.Try.underlying31 (f := 2) rfl
  exact h (by show pp.cellsOf 3 ≠ 0; rw [cn3]; decide)
theorem fp31_3 {i o : Nat} {K : DV → Prop} : dfieldAddr pp 31 (.ptr i o) 3 K = K (.ptr i (o + 3)) := by
  have h := fa_ptr (P := pp) (K := K) (i := i) (o := o) Go.Proofs.Try.underlying31 (f := 3) rfl
  exact h (by show pp.cellsOf 9 ≠ 0; rw [cn9]; decide)
theorem fl31_3 {s g o : Nat} {K : DV → Prop} : dfieldAddr pp 31 (.lptr s g o) 3 K = K (.lptr s g (o + 3)) := by
  have h := fa_lptr (P := pp) (K := K) (s := s) (g := g) (o := o) Go.Proofs.Try.underlying31 (f := 3) rfl
  exact h (by show pp.cellsOf 9 ≠ 0; rw [cn9]; decide)
theorem fv31_3 {cs : List DV} {K : DV → Prop} : dfieldAddr pp 31 (.vptr cs) 3 K = K (.vptr (cs.drop 3)) := by
  have h := fa_vptr (P := pp) (K := K) (cs := cs) Go.Proofs.Try.underlying31 (f := 3) rfl
  exact h (by show pp.cellsOf 9 ≠ 0; rw [cn9]; decide)
theorem fp31_4 {i o : Nat} {K : DV → Prop} : dfieldAddr pp 31 (.ptr i o) 4 K = K (.ptr i (o + 4)) := by
  have h := fa_ptr (P := pp) (K := K) (i := i) (o := o) Go.Proofs.Try.underlying31 (f := 4) rfl
  exact h (by show pp.cellsOf 9 ≠ 0; rw [cn9]; decide)
theorem fl31_4 {s g o : Nat} {K : DV → Prop} : dfieldAddr pp 31 (.lptr s g o) 4 K = K (.lptr s g (o + 4)) := by
  have h := fa_lptr (P := pp) (K := K) (s := s) (g := g) (o := o) Go.Proofs.Try.underlying31 (f := 4) rfl
  exact h (by show pp.cellsOf 9 ≠ 0; rw [cn9]; decide)
theorem fv31_4 {cs : List DV} {K : DV → Prop} : dfieldAddr pp 31 (.vptr cs) 4 K = K (.vptr (cs.drop 4)) := by
  have h := fa_vptr (P := pp) (K := K) (cs := cs) Go.Proofs.Try.underlying31 (f := 4) rfl
  exact h (by show pp.cellsOf 9 ≠ 0; rw [cn9]; decide)
theorem fp31_5 {i o : Nat} {K : DV → Prop} : dfieldAddr pp 31 (.ptr i o) 5 K = K (.ptr i (o + 5)) := by
  have h := fa_ptr (P := pp) (K := K) (i := i) (o := o) Go.Proofs.Try.underlying31 (f := 5) rfl
  exact h (by show pp.cellsOf 9 ≠ 0; rw [cn9]; decide)
theorem fl31_5 {s g o : Nat} {K : DV → Prop} : dfieldAddr pp 31 (.lptr s g o) 5 K = K (.lptr s g (o + 5)) := by
  have h := fa_lptr (P := pp) (K := K) (s := s) (g := g) (o := o) Go.Proofs.Try.underlying31 (f := 5) rfl
  exact h (by show pp.cellsOf 9 ≠ 0; rw [cn9]; decide)
theorem fv31_5 {cs : List DV} {K : DV → Prop} : dfieldAddr pp 31 (.vptr cs) 5 K = K (.vptr (cs.drop 5)) := by
  have h := fa_vptr (P := pp) (K := K) (cs := cs) Go.Proofs.Try.underlying31 (f := 5) rfl
  exact h (by show pp.cellsOf 9 ≠ 0; rw [cn9]; decide)
theorem dl9 {n : Nat} {l : List (Nat × DV)} {B : List (Nat × Nat × List DV)} {H : List HObj} {lk : List (Nat × Pos)} {K : DV → Prop} {s : Str} : dlen pp (mk n l B H lk) 9 (.str s) K = K (.int .i64 s.length) := dl_str Go.Proofs.Try.underlying9
theorem ix9 {k : IntKind} {i : Int} {s : Str} {K : DV → Prop} : dindex pp 9 (.str s) (.int k i) K = (0 ≤ i ∧ i < s.length ∧ K (.int .u8 (s.getD i.toNat 0).toNat)) := ix_str Go.Proofs.Try.underlying9
theorem dl22 {n : Nat} {l : List (Nat × DV)} {B : List (Nat × Nat × List DV)} {H : List HObj} {lk : List (Nat × Pos)} {K : DV → Prop} {own : Bool} {sz : Nat} {xs : List DV} : dlen pp (mk n l B H lk) 22 (.sl own sz xs) K = K (.int .i64 xs.length) := dl_sl Go.Proofs.Try.underlying22
theorem ix22 {k : IntKind} {i : Int} {own : Bool} {xs : List DV} {K : DV → Prop} : dindexAddr pp 22 (.sl own 6 xs) (.int k i) K = (0 ≤ i ∧ i < xs.length ∧ K (.vptr (xs.getD i.toNat .undef).cells)) := ia_sl Go.Proofs.Try.underlying22 cn31 us31
theorem dl45 {n : Nat} {l : List (Nat × DV)} {B : List (Nat × Nat × List DV)} {H : List HObj} {lk : List (Nat × Pos)} {K : DV → Prop} {own : Bool} {sz : Nat} {xs : List DV} : dlen pp (mk n l B H lk) 45 (.sl own sz xs) K = K (.int .i64 xs.length) := dl_sl Go.Proofs.Try.underlying45
theorem ix45 {k : IntKind} {i : Int} {own : Bool} {xs : List DV} {K : DV → Prop} : dindexAddr pp 45 (.sl own 1 xs) (.int k i) K = (0 ≤ i ∧ i < xs.length ∧ K (.vptr (xs.getD i.toNat .undef).cells)) := ia_sl Go.Proofs.Try.underlying45 cn9 us9
theorem dl48 {n : Nat} {l : List (Nat × DV)} {B : List (Nat × Nat × List DV)} {H : List HObj} {lk : List (Nat × Pos)} {K : DV → Prop} {own : Bool} {sz : Nat} {xs : List DV} : dlen pp (mk n l B H lk) 48 (.sl own sz xs) K = K (.int .i64 xs.length) := dl_sl Go.Proofs.Try.underlying48
theorem ix48 {k : IntKind} {i : Int} {own : Bool} {xs : List DV} {K : DV → Prop} : dindexAddr pp 48 (.sl own 1 xs) (.int k i) K = (0 ≤ i ∧ i < xs.length ∧ K (.vptr (xs.getD i.toNat .undef).cells)) := ia_sl Go.Proofs.Try.underlying48 cn5 us5
theorem dl55 {n : Nat} {l : List (Nat × DV)} {B : List (Nat × Nat × List DV)} {H : List HObj} {lk : List (Nat × Pos)} {K : DV → Prop} {own : Bool} {sz : Nat} {xs : List DV} : dlen pp (mk n l B H lk) 55 (.sl own sz xs) K = K (.int .i64 xs.length) := dl_sl Go.Proofs.Try.underlying55
theorem ix55 {k : IntKind} {i : Int} {own : Bool} {xs : List DV} {K : DV → Prop} : dindexAddr pp 55 (.sl own 3 xs) (.int k i) K = (0 ≤ i ∧ i < xs.length ∧ K (.vptr (xs.getD i.toNat .undef).cells)) := ia_sl Go.Proofs.Try.underlying55 cn65 us65
theorem dl58 {n : Nat} {l : List (Nat × DV)} {B : List (Nat × Nat × List DV)} {H : List HObj} {lk : List (Nat × Pos)} {K : DV → Prop} {own : Bool} {sz : Nat} {xs : List DV} : dlen pp (mk n l B H lk) 58 (.sl own sz xs) K = K (.int .i64 xs.length) := dl_sl Go.Proofs.Try.underlying58
theorem ix58 {k : IntKind} {i : Int} {own : Bool} {xs : List DV} {K : DV → Prop} : dindexAddr pp 58 (.sl own 2 xs) (.int k i) K = (0 ≤ i ∧ i < xs.length ∧ K (.vptr (xs.getD i.toNat .undef).cells)) := ia_sl Go.Proofs.Try.underlying58 cn75 us75
theorem dl59 {n : Nat} {l : List (Nat × DV)} {B : List (Nat × Nat × List DV)} {H : List HObj} {lk : List (Nat × Pos)} {K : DV → Prop} {own : Bool} {sz : Nat} {xs : List DV} : dlen pp (mk n l B H lk) 59 (.sl own sz xs) K = K (.int .i64 xs.length) := dl_sl Go.Proofs.Try.underlying59
theorem ix59 {k : IntKind} {i : Int} {own : Bool} {xs : List DV} {K : DV → Prop} : dindexAddr pp 59 (.sl own 3 xs) (.int k i) K = (0 ≤ i ∧ i < xs.length ∧ K (.vptr (xs.getD i.toNat .undef).cells)) := ia_sl Go.Proofs.Try.underlying59 cn69 us69
theorem la2 {c : DV} {r : List DV} {K : DV → Prop} : loadAs pp 2 (c :: r) K = K c.ro := la_cell ia2 us2
theorem la3 {c : DV} {r : List DV} {K : DV → Prop} : loadAs pp 3 (c :: r) K = K c.ro := la_cell ia3 us3
theorem la4 {c : DV} {r : List DV} {K : DV → Prop} : loadAs pp 4 (c :: r) K = K c.ro := la_cell ia4 us4
theorem la5 {c : DV} {r : List DV} {K : DV → Prop} : loadAs pp 5 (c :: r) K = K c.ro := la_cell ia5 us5
theorem la9 {c : DV} {r : List DV} {K : DV → Prop} : loadAs pp 9 (c :: r) K = K c.ro := la_cell ia9 us9
theorem la25 {c : DV} {r : List DV} {K : DV → Prop} : loadAs pp 25 (c :: r) K = K c.ro := la_cell ia25 us25
theorem la27 {c : DV} {r : List DV} {K : DV → Prop} : loadAs pp 27 (c :: r) K = K c.ro := la_cell ia27 us27
theorem la29 {c : DV} {r : List DV} {K : DV → Prop} : loadAs pp 29 (c :: r) K = K c.ro := la_cell ia29 us29
theorem la45 {c : DV} {r : List DV} {K : DV → Prop} : loadAs pp 45 (c :: r) K = K c.ro := la_cell ia45 us45
theorem la54 {c : DV} {r : List DV} {K : DV → Prop} : loadAs pp 54 (c :: r) K = K c.ro := la_cell ia54 us54
theorem la55 {c : DV} {r : List DV} {K : DV → Prop} : loadAs pp 55 (c :: r) K = K c.ro := la_cell ia55 us55
theorem la58 {c : DV} {r : List DV} {K : DV → Prop} : loadAs pp 58 (c :: r) K = K c.ro := la_cell ia58 us58
theorem la59 {c : DV} {r : List DV} {K : DV → Prop} : loadAs pp 59 (c :: r) K = K c.ro := la_cell ia59 us59
theorem la22 {c : DV} {r : List DV} {K : DV → Prop} : loadAs pp 22 (c :: r) K = K c.ro := la_cell ia22 us22
theorem la48 {c : DV} {r : List DV} {K : DV → Prop} : loadAs pp 48 (c :: r) K = K c.ro := la_cell ia48 us48
theorem la57 {cs : List DV} {K : DV → Prop} : loadAs pp 57 cs K = (4 ≤ cs.length ∧ K (.agg ((cs.take 4).map DV.ro1))) := by rw [la_agg ia57, cn57]
theorem la61 {cs : List DV} {K : DV → Prop} : loadAs pp 61 cs K = (4 ≤ cs.length ∧ K (.agg ((cs.take 4).map DV.ro1))) := by rw [la_agg ia61, cn61]
theorem la65 {cs : List DV} {K : DV → Prop} : loadAs pp 65 cs K = (3 ≤ cs.length ∧ K (.agg ((cs.take 3).map DV.ro1))) := by rw [la_agg ia65, cn65]
theorem la69 {cs : List DV} {K : DV → Prop} : loadAs pp 69 cs K = (3 ≤ cs.length ∧ K (.agg ((cs.take 3).map DV.ro1))) := by rw [la_agg ia69, cn69]
theorem la75 {cs : List DV} {K : DV → Prop} : loadAs pp 75 cs K = (2 ≤ cs.length ∧ K (.agg ((cs.take 2).map DV.ro1))) := by rw [la_agg ia75, cn75]
theorem la31 {cs : List DV} {K : DV → Prop} : loadAs pp 31 cs K = (6 ≤ cs.length ∧ K (.agg ((cs.take 6).map DV.ro1))) := by rw [la_agg ia31, cn31]
theorem lf9 {o : Option Str} {K : DV → Prop} : lookFin pp 9 true K (o.map .str) = K (.tup [.str (o.getD []), .bool o.isSome]) := lf_str zd9_4 zo9_4 ia9
theorem lf9' {o : Option Str} {K : DV → Prop} : lookFin pp 9 false K (o.map .str) = K (.str (o.getD [])) := lf_str' zd9_4 zo9_4 ia9
theorem kt9 {s : Str} : keyT pp 9 (.str s) = True := keyT_str Go.Proofs.Try.underlying9
theorem lk54 {n : Nat} {l : List (Nat × DV)} {B : List (Nat × Nat × List DV)} {H : List HObj} {lk : List (Nat × Pos)} {K : DV → Prop} {id : Nat} {fs : Files} {k : Str} {ok : Bool} (h : H[id]? = some (.map (enc fs))) : dlookup pp (mk n l B H lk) 54 (.map id) (.str k) ok K = lookFin pp 9 ok K ((getF fs k).map .str) := by
  rw [lk_map Go.Proofs.Try.underlying54 h (find_enc k fs), kt9]; simp
theorem mu54 {n : Nat} {l : List (Nat × DV)} {B : List (Nat × Nat × List DV)} {H : List HObj} {lk : List (Nat × Pos)} {K : St → Prop} {id : Nat} {fs : Files} {k v : Str} (h : H[id]? = some (.map (enc fs))) : mapUpdD pp (mk n l B H lk) 54 (.map id) (.str k) (.str v) K = K ((mk n l B H lk).setH id (.map (enc (setF k v fs)))) := by
  rw [mu Go.Proofs.Try.underlying54 h, kt9, all_enc, ← set_enc]; simp [DV.plain, DV.ro]
theorem md54 {n : Nat} {l : List (Nat × DV)} {B : List (Nat × Nat × List DV)} {H : List HObj} {lk : List (Nat × Pos)} {K : St → Prop} {id : Nat} {fs : Files} {k : Str} (h : H[id]? = some (.map (enc fs))) : mapDelD pp (mk n l B H lk) 54 (.map id) (.str k) K = K ((mk n l B H lk).setH id (.map (enc (delF k fs)))) := by
  rw [md Go.Proofs.Try.underlying54 h, kt9, all_enc, ← del_enc]; simp
theorem dl54 {n : Nat} {l : List (Nat × DV)} {B : List (Nat × Nat × List DV)} {H : List HObj} {lk : List (Nat × Pos)} {K : DV → Prop} {id : Nat} {fs : Files} (h : H[id]? = some (.map (enc fs))) : dlen pp (mk n l B H lk) 54 (.map id) K = K (.int .i64 fs.length) := by
  rw [dl_map Go.Proofs.Try.underlying54 h, enc_length]
theorem nv65 {n : Nat} {l : List (Nat × DV)} {B : List (Nat × Nat × List DV)} {H : List HObj} {lk : List (Nat × Pos)} {s : Nat} {dv : DV} : newVarD isO (mk n l B H lk) s 65 dv = mk n ((s, .lptr s (bgen s B) 0) :: l) (bset s (bgen s B) dv.cells B) H (dropLk s lk) := nv_box rfl
theorem nv69 {n : Nat} {l : List (Nat × DV)} {B : List (Nat × Nat × List DV)} {H : List HObj} {lk : List (Nat × Pos)} {s : Nat} {dv : DV} : newVarD isO (mk n l B H lk) s 69 dv = mk n ((s, .lptr s (bgen s B) 0) :: l) (bset s (bgen s B) dv.cells B) H (dropLk s lk) := nv_box rfl
theorem nv75 {n : Nat} {l : List (Nat × DV)} {B : List (Nat × Nat × List DV)} {H : List HObj} {lk : List (Nat × Pos)} {s : Nat} {dv : DV} : newVarD isO (mk n l B H lk) s 75 dv = mk n ((s, .lptr s (bgen s B) 0) :: l) (bset s (bgen s B) dv.cells B) H (dropLk s lk) := nv_box rfl
theorem no57 {n : Nat} {l : List (Nat × DV)} {B : List (Nat × Nat × List DV)} {H : List HObj} {lk : List (Nat × Pos)} {s : Nat} {dv : DV} : newVarD isO (mk n l B H lk) s 57 dv = mk n ((s, .ptr H.length 0) :: l) B (H ++ [HObj.cells dv.cells]) (dropLk s lk) := nv_obj rfl
theorem no61 {n : Nat} {l : List (Nat × DV)} {B : List (Nat × Nat × List DV)} {H : List HObj} {lk : List (Nat × Pos)} {s : Nat} {dv : DV} : newVarD isO (mk n l B H lk) s 61 dv = mk n ((s, .ptr H.length 0) :: l) B (H ++ [HObj.cells dv.cells]) (dropLk s lk) := nv_obj rfl
theorem bs55 {isObj : ObjT} {Γ : Env} {s : Nat} {t : TypeId} {x : Operand} {p : String} {af : Array Edge} {g : Option (Nat × Bool)} {st : St} {K : St → Prop} : dopC pp isObj Γ (hold ⟨some s, .buildSlice 55 1 #[(0, x)], t, p, af, g⟩ (tag _)) st K = ((rho pp st 65 x).ro.cells.length = 3 ∧ (rho pp st 65 x).ro.cells.all DV.scalar = true ∧ K (st.put s (.sl true 3 [(rho pp st 65 x).ro]))) := bs_one Go.Proofs.Try.underlying55 us65 cn65 (by decide) (by decide) zi65
theorem ap55 {st : St} {s : Nat} {x : Operand} {own : Bool} {ys : List DV} {K : St → Prop} : appendD pp st s 55 55 x (.sl own 3 ys) K = apd 3 40 s ys (take pp st 55 x) K := ap_sl Go.Proofs.Try.underlying55 Go.Proofs.Try.underlying55 us65 (by decide) cn65 bn65 (by rw [zd65_4]; exact zo65_4)
theorem bs58 {isObj : ObjT} {Γ : Env} {s : Nat} {t : TypeId} {x : Operand} {p : String} {af : Array Edge} {g : Option (Nat × Bool)} {st : St} {K : St → Prop} : dopC pp isObj Γ (hold ⟨some s, .buildSlice 58 1 #[(0, x)], t, p, af, g⟩ (tag _)) st K = ((rho pp st 75 x).ro.cells.length = 2 ∧ (rho pp st 75 x).ro.cells.all DV.scalar = true ∧ K (st.put s (.sl true 2 [(rho pp st 75 x).ro]))) := bs_one Go.Proofs.Try.underlying58 us75 cn75 (by decide) (by decide) zi75
theorem ap58 {st : St} {s : Nat} {x : Operand} {own : Bool} {ys : List DV} {K : St → Prop} : appendD pp st s 58 58 x (.sl own 2 ys) K = apd 2 32 s ys (take pp st 58 x) K := ap_sl Go.Proofs.Try.underlying58 Go.Proofs.Try.underlying58 us75 (by decide) cn75 bn75 (by rw [zd75_4]; exact zo75_4)
theorem bs59 {isObj : ObjT} {Γ : Env} {s : Nat} {t : TypeId} {x : Operand} {p : String} {af : Array Edge} {g : Option (Nat × Bool)} {st : St} {K : St → Prop} : dopC pp isObj Γ (hold ⟨some s, .buildSlice 59 1 #[(0, x)], t, p, af, g⟩ (tag _)) st K = ((rho pp st 69 x).ro.cells.length = 3 ∧ (rho pp st 69 x).ro.cells.all DV.scalar = true ∧ K (st.put s (.sl true 3 [(rho pp st 69 x).ro]))) := bs_one Go.Proofs.Try.underlying59 us69 cn69 (by decide) (by decide) zi69
theorem ap59 {st : St} {s : Nat} {x : Operand} {own : Bool} {ys : List DV} {K : St → Prop} : appendD pp st s 59 59 x (.sl own 3 ys) K = apd 3 40 s ys (take pp st 59 x) K := ap_sl Go.Proofs.Try.underlying59 Go.Proofs.Try.underlying59 us69 (by decide) cn69 bn69 (by rw [zd69_4]; exact zo69_4)
theorem dl54h {n : Nat} {l : List (Nat × DV)} {B : List (Nat × Nat × List DV)} {H : List HObj} {lk : List (Nat × Pos)} {K : DV → Prop} {id : Nat} : dlen pp (mk n l B H lk) 54 (.map id) K = onMap (H[id]?) (fun es K => K (.int .i64 es.length)) K := by
  simp only [dlen, Go.Proofs.Try.underlying54, mk]
  cases H[id]? with
  | none => simp [onMap]
  | some o => cases o <;> simp [onMap]
noncomputable def fs57 : Array Field := match pp.underlying 57 with | some (.struct fs) => fs | _ => #[]
theorem bd57 {isObj : ObjT} {Γ : Env} {s : Nat} {t : TypeId} {p : String} {af : Array Edge} {g : Option (Nat × Bool)} {parts : List (Nat × Operand)} {st : St} {K : St → Prop} : dopC pp isObj Γ (hold ⟨some s, .build 57 parts.toArray, t, p, af, g⟩ (tag _)) st K = buildD pp fs57 parts [.nilmap, .nilmap, .sl true 3 [], .int .i64 0] (st.put s .undef) (hold (fun cs st' => K (st'.put s (.agg cs))) (tag _)) := o_bd (by kernel_rfl) ia57 zd57_6 zo57_4 (by kernel_rfl)
theorem bq57 {dst : Option Nat} {t : TypeId} {p : String} {af : Array Edge} {g : Option (Nat × Bool)} {parts : List (Nat × Operand)} {st : St} {K : DV → Prop} : dq pp (hold ⟨dst, .build 57 parts.toArray, t, p, af, g⟩ (tag _)) st K = buildQ pp fs57 st parts (([.nilmap, .nilmap, .sl true 3 [], .int .i64 0] : List DV).map DV.ro1) fun cs => K (.agg (cs.map DV.ro1)) := q_bd (by kernel_rfl) ia57 zd57_6 zo57_4 (by kernel_rfl)
theorem bd57_0 {st : St} {cs : List DV} {x : Operand} {r : List (Nat × Operand)} {F : List DV → St → Prop} : buildD pp fs57 ((0, x) :: r) cs st F = bdk 0 1 cs (take pp st 54 x) (hold (fun cs st => buildD pp fs57 r cs st F) (tag _)) := bd_cons (by kernel_rfl) cn54
theorem bq57_0 {st : St} {cs : List DV} {x : Operand} {r : List (Nat × Operand)} {F : List DV → Prop} : buildQ pp fs57 st ((0, x) :: r) cs F = bqk 0 1 cs (rho pp st 54 x) (fun cs => buildQ pp fs57 st r cs F) := bq_cons (by kernel_rfl) cn54
theorem bd57_1 {st : St} {cs : List DV} {x : Operand} {r : List (Nat × Operand)} {F : List DV → St → Prop} : buildD pp fs57 ((1, x) :: r) cs st F = bdk 1 1 cs (take pp st 54 x) (hold (fun cs st => buildD pp fs57 r cs st F) (tag _)) := bd_cons (by kernel_rfl) cn54
theorem bq57_1 {st : St} {cs : List DV} {x : Operand} {r : List (Nat × Operand)} {F : List DV → Prop} : buildQ pp fs57 st ((1, x) :: r) cs F = bqk 1 1 cs (rho pp st 54 x) (fun cs => buildQ pp fs57 st r cs F) := bq_cons (by kernel_rfl) cn54
theorem bd57_2 {st : St} {cs : List DV} {x : Operand} {r : List (Nat × Operand)} {F : List DV → St → Prop} : buildD pp fs57 ((2, x) :: r) cs st F = bdk 2 1 cs (take pp st 55 x) (hold (fun cs st => buildD pp fs57 r cs st F) (tag _)) := bd_cons (by kernel_rfl) cn55
theorem bq57_2 {st : St} {cs : List DV} {x : Operand} {r : List (Nat × Operand)} {F : List DV → Prop} : buildQ pp fs57 st ((2, x) :: r) cs F = bqk 2 1 cs (rho pp st 55 x) (fun cs => buildQ pp fs57 st r cs F) := bq_cons (by kernel_rfl) cn55
theorem bd57_3 {st : St} {cs : List DV} {x : Operand} {r : List (Nat × Operand)} {F : List DV → St → Prop} : buildD pp fs57 ((3, x) :: r) cs st F = bdk 3 1 cs (take pp st 3 x) (hold (fun cs st => buildD pp fs57 r cs st F) (tag _)) := bd_cons (by kernel_rfl) cn3
theorem bq57_3 {st : St} {cs : List DV} {x : Operand} {r : List (Nat × Operand)} {F : List DV → Prop} : buildQ pp fs57 st ((3, x) :: r) cs F = bqk 3 1 cs (rho pp st 3 x) (fun cs => buildQ pp fs57 st r cs F) := bq_cons (by kernel_rfl) cn3
noncomputable def fs61 : Array Field := match pp.underlying 61 with | some (.struct fs) => fs | _ => #[]
theorem bd61 {isObj : ObjT} {Γ : Env} {s : Nat} {t : TypeId} {p : String} {af : Array Edge} {g : Option (Nat × Bool)} {parts : List (Nat × Operand)} {st : St} {K : St → Prop} : dopC pp isObj Γ (hold ⟨some s, .build 61 parts.toArray, t, p, af, g⟩ (tag _)) st K = buildD pp fs61 parts [.sl true 2 [], .sl true 2 [], .sl true 3 [], .int .i64 0] (st.put s .undef) (hold (fun cs st' => K (st'.put s (.agg cs))) (tag _)) := o_bd (by kernel_rfl) ia61 zd61_6 zo61_4 (by kernel_rfl)
theorem bq61 {dst : Option Nat} {t : TypeId} {p : String} {af : Array Edge} {g : Option (Nat × Bool)} {parts : List (Nat × Operand)} {st : St} {K : DV → Prop} : dq pp (hold ⟨dst, .build 61 parts.toArray, t, p, af, g⟩ (tag _)) st K = buildQ pp fs61 st parts (([.sl true 2 [], .sl true 2 [], .sl true 3 [], .int .i64 0] : List DV).map DV.ro1) fun cs => K (.agg (cs.map DV.ro1)) := q_bd (by kernel_rfl) ia61 zd61_6 zo61_4 (by kernel_rfl)
theorem bd61_0 {st : St} {cs : List DV} {x : Operand} {r : List (Nat × Operand)} {F : List DV → St → Prop} : buildD pp fs61 ((0, x) :: r) cs st F = bdk 0 1 cs (take pp st 58 x) (hold (fun cs st => buildD pp fs61 r cs st F) (tag _)) := bd_cons (by kernel_rfl) cn58
theorem bq61_0 {st : St} {cs : List DV} {x : Operand} {r : List (Nat × Operand)} {F : List DV → Prop} : buildQ pp fs61 st ((0, x) :: r) cs F = bqk 0 1 cs (rho pp st 58 x) (fun cs => buildQ pp fs61 st r cs F) := bq_cons (by kernel_rfl) cn58
theorem bd61_1 {st : St} {cs : List DV} {x : Operand} {r : List (Nat × Operand)} {F : List DV → St → Prop} : buildD pp fs61 ((1, x) :: r) cs st F = bdk 1 1 cs (take pp st 58 x) (hold (fun cs st => buildD pp fs61 r cs st F) (tag _)) := bd_cons (by kernel_rfl) cn58
theorem bq61_1 {st : St} {cs : List DV} {x : Operand} {r : List (Nat × Operand)} {F : List DV → Prop} : buildQ pp fs61 st ((1, x) :: r) cs F = bqk 1 1 cs (rho pp st 58 x) (fun cs => buildQ pp fs61 st r cs F) := bq_cons (by kernel_rfl) cn58
theorem bd61_2 {st : St} {cs : List DV} {x : Operand} {r : List (Nat × Operand)} {F : List DV → St → Prop} : buildD pp fs61 ((2, x) :: r) cs st F = bdk 2 1 cs (take pp st 59 x) (hold (fun cs st => buildD pp fs61 r cs st F) (tag _)) := bd_cons (by kernel_rfl) cn59
theorem bq61_2 {st : St} {cs : List DV} {x : Operand} {r : List (Nat × Operand)} {F : List DV → Prop} : buildQ pp fs61 st ((2, x) :: r) cs F = bqk 2 1 cs (rho pp st 59 x) (fun cs => buildQ pp fs61 st r cs F) := bq_cons (by kernel_rfl) cn59
theorem bd61_3 {st : St} {cs : List DV} {x : Operand} {r : List (Nat × Operand)} {F : List DV → St → Prop} : buildD pp fs61 ((3, x) :: r) cs st F = bdk 3 1 cs (take pp st 3 x) (hold (fun cs st => buildD pp fs61 r cs st F) (tag _)) := bd_cons (by kernel_rfl) cn3
theorem bq61_3 {st : St} {cs : List DV} {x : Operand} {r : List (Nat × Operand)} {F : List DV → Prop} : buildQ pp fs61 st ((3, x) :: r) cs F = bqk 3 1 cs (rho pp st 3 x) (fun cs => buildQ pp fs61 st r cs F) := bq_cons (by kernel_rfl) cn3
noncomputable def fs65 : Array Field := match pp.underlying 65 with | some (.struct fs) => fs | _ => #[]
theorem bd65 {isObj : ObjT} {Γ : Env} {s : Nat} {t : TypeId} {p : String} {af : Array Edge} {g : Option (Nat × Bool)} {parts : List (Nat × Operand)} {st : St} {K : St → Prop} : dopC pp isObj Γ (hold ⟨some s, .build 65 parts.toArray, t, p, af, g⟩ (tag _)) st K = buildD pp fs65 parts [.int .i64 0, .str [], .str []] (st.put s .undef) (hold (fun cs st' => K (st'.put s (.agg cs))) (tag _)) := o_bd (by kernel_rfl) ia65 zd65_6 zo65_4 (by kernel_rfl)
theorem bq65 {dst : Option Nat} {t : TypeId} {p : String} {af : Array Edge} {g : Option (Nat × Bool)} {parts : List (Nat × Operand)} {st : St} {K : DV → Prop} : dq pp (hold ⟨dst, .build 65 parts.toArray, t, p, af, g⟩ (tag _)) st K = buildQ pp fs65 st parts (([.int .i64 0, .str [], .str []] : List DV).map DV.ro1) fun cs => K (.agg (cs.map DV.ro1)) := q_bd (by kernel_rfl) ia65 zd65_6 zo65_4 (by kernel_rfl)
theorem bd65_0 {st : St} {cs : List DV} {x : Operand} {r : List (Nat × Operand)} {F : List DV → St → Prop} : buildD pp fs65 ((0, x) :: r) cs st F = bdk 0 1 cs (take pp st 3 x) (hold (fun cs st => buildD pp fs65 r cs st F) (tag _)) := bd_cons (by kernel_rfl) cn3
theorem bq65_0 {st : St} {cs : List DV} {x : Operand} {r : List (Nat × Operand)} {F : List DV → Prop} : buildQ pp fs65 st ((0, x) :: r) cs F = bqk 0 1 cs (rho pp st 3 x) (fun cs => buildQ pp fs65 st r cs F) := bq_cons (by kernel_rfl) cn3
theorem bd65_1 {st : St} {cs : List DV} {x : Operand} {r : List (Nat × Operand)} {F : List DV → St → Prop} : buildD pp fs65 ((1, x) :: r) cs st F = bdk 1 1 cs (take pp st 9 x) (hold (fun cs st => buildD pp fs65 r cs st F) (tag _)) := bd_cons (by kernel_rfl) cn9
theorem bq65_1 {st : St} {cs : List DV} {x : Operand} {r : List (Nat × Operand)} {F : List DV → Prop} : buildQ pp fs65 st ((1, x) :: r) cs F = bqk 1 1 cs (rho pp st 9 x) (fun cs => buildQ pp fs65 st r cs F) := bq_cons (by kernel_rfl) cn9
theorem bd65_2 {st : St} {cs : List DV} {x : Operand} {r : List (Nat × Operand)} {F : List DV → St → Prop} : buildD pp fs65 ((2, x) :: r) cs st F = bdk 2 1 cs (take pp st 9 x) (hold (fun cs st => buildD pp fs65 r cs st F) (tag _)) := bd_cons (by kernel_rfl) cn9
theorem bq65_2 {st : St} {cs : List DV} {x : Operand} {r : List (Nat × Operand)} {F : List DV → Prop} : buildQ pp fs65 st ((2, x) :: r) cs F = bqk 2 1 cs (rho pp st 9 x) (fun cs => buildQ pp fs65 st r cs F) := bq_cons (by kernel_rfl) cn9
noncomputable def fs69 : Array Field := match pp.underlying 69 with | some (.struct fs) => fs | _ => #[]
theorem bd69 {isObj : ObjT} {Γ : Env} {s : Nat} {t : TypeId} {p : String} {af : Array Edge} {g : Option (Nat × Bool)} {parts : List (Nat × Operand)} {st : St} {K : St → Prop} : dopC pp isObj Γ (hold ⟨some s, .build 69 parts.toArray, t, p, af, g⟩ (tag _)) st K = buildD pp fs69 parts [.int .i64 0, .str [], .str []] (st.put s .undef) (hold (fun cs st' => K (st'.put s (.agg cs))) (tag _)) := o_bd (by kernel_rfl) ia69 zd69_6 zo69_4 (by kernel_rfl)
theorem bq69 {dst : Option Nat} {t : TypeId} {p : String} {af : Array Edge} {g : Option (Nat × Bool)} {parts : List (Nat × Operand)} {st : St} {K : DV → Prop} : dq pp (hold ⟨dst, .build 69 parts.toArray, t, p, af, g⟩ (tag _)) st K = buildQ pp fs69 st parts (([.int .i64 0, .str [], .str []] : List DV).map DV.ro1) fun cs => K (.agg (cs.map DV.ro1)) := q_bd (by kernel_rfl) ia69 zd69_6 zo69_4 (by kernel_rfl)
theorem bd69_0 {st : St} {cs : List DV} {x : Operand} {r : List (Nat × Operand)} {F : List DV → St → Prop} : buildD pp fs69 ((0, x) :: r) cs st F = bdk 0 1 cs (take pp st 3 x) (hold (fun cs st => buildD pp fs69 r cs st F) (tag _)) := bd_cons (by kernel_rfl) cn3
theorem bq69_0 {st : St} {cs : List DV} {x : Operand} {r : List (Nat × Operand)} {F : List DV → Prop} : buildQ pp fs69 st ((0, x) :: r) cs F = bqk 0 1 cs (rho pp st 3 x) (fun cs => buildQ pp fs69 st r cs F) := bq_cons (by kernel_rfl) cn3
theorem bd69_1 {st : St} {cs : List DV} {x : Operand} {r : List (Nat × Operand)} {F : List DV → St → Prop} : buildD pp fs69 ((1, x) :: r) cs st F = bdk 1 1 cs (take pp st 9 x) (hold (fun cs st => buildD pp fs69 r cs st F) (tag _)) := bd_cons (by kernel_rfl) cn9
theorem bq69_1 {st : St} {cs : List DV} {x : Operand} {r : List (Nat × Operand)} {F : List DV → Prop} : buildQ pp fs69 st ((1, x) :: r) cs F = bqk 1 1 cs (rho pp st 9 x) (fun cs => buildQ pp fs69 st r cs F) := bq_cons (by kernel_rfl) cn9
theorem bd69_2 {st : St} {cs : List DV} {x : Operand} {r : List (Nat × Operand)} {F : List DV → St → Prop} : buildD pp fs69 ((2, x) :: r) cs st F = bdk 2 1 cs (take pp st 9 x) (hold (fun cs st => buildD pp fs69 r cs st F) (tag _)) := bd_cons (by kernel_rfl) cn9
theorem bq69_2 {st : St} {cs : List DV} {x : Operand} {r : List (Nat × Operand)} {F : List DV → Prop} : buildQ pp fs69 st ((2, x) :: r) cs F = bqk 2 1 cs (rho pp st 9 x) (fun cs => buildQ pp fs69 st r cs F) := bq_cons (by kernel_rfl) cn9
noncomputable def fs75 : Array Field := match pp.underlying 75 with | some (.struct fs) => fs | _ => #[]
theorem bd75 {isObj : ObjT} {Γ : Env} {s : Nat} {t : TypeId} {p : String} {af : Array Edge} {g : Option (Nat × Bool)} {parts : List (Nat × Operand)} {st : St} {K : St → Prop} : dopC pp isObj Γ (hold ⟨some s, .build 75 parts.toArray, t, p, af, g⟩ (tag _)) st K = buildD pp fs75 parts [.str [], .str []] (st.put s .undef) (hold (fun cs st' => K (st'.put s (.agg cs))) (tag _)) := o_bd (by kernel_rfl) ia75 zd75_6 zo75_4 (by kernel_rfl)
theorem bq75 {dst : Option Nat} {t : TypeId} {p : String} {af : Array Edge} {g : Option (Nat × Bool)} {parts : List (Nat × Operand)} {st : St} {K : DV → Prop} : dq pp (hold ⟨dst, .build 75 parts.toArray, t, p, af, g⟩ (tag _)) st K = buildQ pp fs75 st parts (([.str [], .str []] : List DV).map DV.ro1) fun cs => K (.agg (cs.map DV.ro1)) := q_bd (by kernel_rfl) ia75 zd75_6 zo75_4 (by kernel_rfl)
theorem bd75_0 {st : St} {cs : List DV} {x : Operand} {r : List (Nat × Operand)} {F : List DV → St → Prop} : buildD pp fs75 ((0, x) :: r) cs st F = bdk 0 1 cs (take pp st 9 x) (hold (fun cs st => buildD pp fs75 r cs st F) (tag _)) := bd_cons (by kernel_rfl) cn9
theorem bq75_0 {st : St} {cs : List DV} {x : Operand} {r : List (Nat × Operand)} {F : List DV → Prop} : buildQ pp fs75 st ((0, x) :: r) cs F = bqk 0 1 cs (rho pp st 9 x) (fun cs => buildQ pp fs75 st r cs F) := bq_cons (by kernel_rfl) cn9
theorem bd75_1 {st : St} {cs : List DV} {x : Operand} {r : List (Nat × Operand)} {F : List DV → St → Prop} : buildD pp fs75 ((1, x) :: r) cs st F = bdk 1 1 cs (take pp st 9 x) (hold (fun cs st => buildD pp fs75 r cs st F) (tag _)) := bd_cons (by kernel_rfl) cn9
theorem bq75_1 {st : St} {cs : List DV} {x : Operand} {r : List (Nat × Operand)} {F : List DV → Prop} : buildQ pp fs75 st ((1, x) :: r) cs F = bqk 1 1 cs (rho pp st 9 x) (fun cs => buildQ pp fs75 st r cs F) := bq_cons (by kernel_rfl) cn9
theorem bz55 {isObj : ObjT} {Γ : Env} {s : Nat} {t : TypeId} {p : String} {af : Array Edge} {g : Option (Nat × Bool)} {st : St} {K : St → Prop} : dopC pp isObj Γ (hold ⟨some s, .buildSlice 55 0 #[], t, p, af, g⟩ (tag _)) st K = K (st.put s (.sl true 3 [])) := bs_zero Go.Proofs.Try.underlying55 us65 cn65 (by decide) zi65
end Go.Ab.Sh
