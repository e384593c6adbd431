/-
  No cell of these rows narrows 'for every input' (looked for: loops, veiled, ifaces, maps, wideKeys, modest, calm, conditions, laid).
  DERIVED. THE GIVEN ROWS OF THIS SEAT. 5 by the template 'for every input the law returns true; each argument reads behind the call as it read before'; 0 by the template 'total and deterministic' (their statements: YtcljbddnnnbihaaTotals.lean).
  GIVEN WITH THE SEED: the statements are not yours to turn. If you find one false, say at which input.
  Laid BY PROGRAM, IN A SANDBOX (cutbox-rows.mjs): the forced cells as the released guide's own fill.sh prints them over the translation e726acc1ceec4967… (all of the seat's roots in one cut). By AI agents, Wed Nov 11 2026. No macro, syntax, notation, axiom, sorry.
-/
import Derived.Test.YtcljbddnnnbihaaChecked
import GoSem.Claim
import GoSem.ClaimJoined
import GoSem.ClaimMapViews
import Derived.JoinedTies
import Derived.KernelRfl
namespace Go.Proofs.Ytcljbddnnnbihaa
/- THE CELL 'sum', in the pinned program and in every row, IS THE sha256 OF THE DUMP (.gsa) THAT YtcljbddnnnbihaaProg.lean LOADS. Nothing in Lean hashes anything: it is a label: what it is worth is what the hold of that sum in a sandbox is worth. -/
noncomputable def Try.pinned : Pinned := { name := "ytcljbddnnnbihaa", sum := "e726acc1ceec4967ed2833abeea2e6193aff268c5a2ab3fc1b4e3bbd425daf73", checked := Try.checked }
namespace Rows
def none {H : Type} : Left H := { results := [], args := [] }

/-- 'ravelinlaw5.ShelfPlays': WHATEVER THE INPUT: true; the input reads as it did. -/
def shelfPlaysSpec : ChangeSpec := { name := "shelfPlays", fn := fun _ => fun
  | [d1, d2] => { results := [.lit (.bool true)], args := [d1, d2] }
  | _ => none }
def shelfPlaysRow : OpenClaim := { program := "ytcljbddnnnbihaa", sum := "e726acc1ceec4967ed2833abeea2e6193aff268c5a2ab3fc1b4e3bbd425daf73", func := "ravelin/ravelinlaw5.ShelfPlays", spec := "shelfPlays", inPlace := ["maps.clone"], unfollowed := true, recurses := true, apart := false }
def ShelfPlaysSaid : Prop := shelfPlaysRow.holds Try.pinned (OpenSpec.ofChange shelfPlaysSpec)

/-- ITS FALSE NEIGHBOUR: 'it returns false'. Refute it at one input. -/
def shelfPlaysWrong : ChangeSpec := { name := "shelfPlays", fn := fun _ => fun
  | [d1, d2] => { results := [.lit (.bool false)], args := [d1, d2] }
  | _ => none }
def ShelfPlaysWrongFalsely : Prop := shelfPlaysRow.holds Try.pinned (OpenSpec.ofChange shelfPlaysWrong)

/-- 'ravelinlaw5.ShelfKeeps': WHATEVER THE INPUT: true; the input reads as it did. -/
def shelfKeepsSpec : ChangeSpec := { name := "shelfKeeps", fn := fun _ => fun
  | [d1, d2, d3, d4] => { results := [.lit (.bool true)], args := [d1, d2, d3, d4] }
  | _ => none }
def shelfKeepsRow : OpenClaim := { program := "ytcljbddnnnbihaa", sum := "e726acc1ceec4967ed2833abeea2e6193aff268c5a2ab3fc1b4e3bbd425daf73", func := "ravelin/ravelinlaw5.ShelfKeeps", spec := "shelfKeeps", inPlace := ["maps.clone"], unfollowed := true, recurses := true, apart := false }
def ShelfKeepsSaid : Prop := shelfKeepsRow.holds Try.pinned (OpenSpec.ofChange shelfKeepsSpec)

/-- ITS FALSE NEIGHBOUR: 'it returns false'. Refute it at one input. -/
def shelfKeepsWrong : ChangeSpec := { name := "shelfKeeps", fn := fun _ => fun
  | [d1, d2, d3, d4] => { results := [.lit (.bool false)], args := [d1, d2, d3, d4] }
  | _ => none }
def ShelfKeepsWrongFalsely : Prop := shelfKeepsRow.holds Try.pinned (OpenSpec.ofChange shelfKeepsWrong)

/-- 'ravelinlaw5.ShelfFull': WHATEVER THE INPUT: true; the input reads as it did. -/
def shelfFullSpec : ChangeSpec := { name := "shelfFull", fn := fun _ => fun
  | [d1, d2, d3] => { results := [.lit (.bool true)], args := [d1, d2, d3] }
  | _ => none }
def shelfFullRow : OpenClaim := { program := "ytcljbddnnnbihaa", sum := "e726acc1ceec4967ed2833abeea2e6193aff268c5a2ab3fc1b4e3bbd425daf73", func := "ravelin/ravelinlaw5.ShelfFull", spec := "shelfFull", inPlace := ["maps.clone"], unfollowed := true, recurses := true, apart := false }
def ShelfFullSaid : Prop := shelfFullRow.holds Try.pinned (OpenSpec.ofChange shelfFullSpec)

/-- ITS FALSE NEIGHBOUR: 'it returns false'. Refute it at one input. -/
def shelfFullWrong : ChangeSpec := { name := "shelfFull", fn := fun _ => fun
  | [d1, d2, d3] => { results := [.lit (.bool false)], args := [d1, d2, d3] }
  | _ => none }
def ShelfFullWrongFalsely : Prop := shelfFullRow.holds Try.pinned (OpenSpec.ofChange shelfFullWrong)

/-- 'ravelinlaw5.ShelfSwaps': WHATEVER THE INPUT: true; the input reads as it did. -/
def shelfSwapsSpec : ChangeSpec := { name := "shelfSwaps", fn := fun _ => fun
  | [d1, d2, d3, d4] => { results := [.lit (.bool true)], args := [d1, d2, d3, d4] }
  | _ => none }
def shelfSwapsRow : OpenClaim := { program := "ytcljbddnnnbihaa", sum := "e726acc1ceec4967ed2833abeea2e6193aff268c5a2ab3fc1b4e3bbd425daf73", func := "ravelin/ravelinlaw5.ShelfSwaps", spec := "shelfSwaps", inPlace := ["maps.clone"], unfollowed := true, recurses := true, apart := false }
def ShelfSwapsSaid : Prop := shelfSwapsRow.holds Try.pinned (OpenSpec.ofChange shelfSwapsSpec)

/-- ITS FALSE NEIGHBOUR: 'it returns false'. Refute it at one input. -/
def shelfSwapsWrong : ChangeSpec := { name := "shelfSwaps", fn := fun _ => fun
  | [d1, d2, d3, d4] => { results := [.lit (.bool false)], args := [d1, d2, d3, d4] }
  | _ => none }
def ShelfSwapsWrongFalsely : Prop := shelfSwapsRow.holds Try.pinned (OpenSpec.ofChange shelfSwapsWrong)

/-- 'ravelinlaw5.ShelfDrops': WHATEVER THE INPUT: true; the input reads as it did. -/
def shelfDropsSpec : ChangeSpec := { name := "shelfDrops", fn := fun _ => fun
  | [d1, d2, d3] => { results := [.lit (.bool true)], args := [d1, d2, d3] }
  | _ => none }
def shelfDropsRow : OpenClaim := { program := "ytcljbddnnnbihaa", sum := "e726acc1ceec4967ed2833abeea2e6193aff268c5a2ab3fc1b4e3bbd425daf73", func := "ravelin/ravelinlaw5.ShelfDrops", spec := "shelfDrops", inPlace := ["maps.clone"], unfollowed := true, recurses := true, apart := false }
def ShelfDropsSaid : Prop := shelfDropsRow.holds Try.pinned (OpenSpec.ofChange shelfDropsSpec)

/-- ITS FALSE NEIGHBOUR: 'it returns false'. Refute it at one input. -/
def shelfDropsWrong : ChangeSpec := { name := "shelfDrops", fn := fun _ => fun
  | [d1, d2, d3] => { results := [.lit (.bool false)], args := [d1, d2, d3] }
  | _ => none }
def ShelfDropsWrongFalsely : Prop := shelfDropsRow.holds Try.pinned (OpenSpec.ofChange shelfDropsWrong)

/- THE SECOND FORM. 'bulk': how many values and letters a reading holds, each counted each time it is reached (what is shared counts as often as it is met; a slice's spare places count too). A statement '..UptoSaid' is the law's where the arguments, and the package variables that the reading takes, are together of bulk at most 1048576: NARROWER than '..Said'. Prove '..Said' where nothing that the law and all that it calls make is longer than what came in: it says more and counts as full. Else prove '..UptoSaid'. A law counts once. -/
mutual
def uptoBulk {H : Type} : DataW H → Nat
  | .lit (.string bytes) => bytes.length + 1
  | .lit _ => 1
  | .nil => 1
  | .ptr d => uptoBulk d + 1
  | .slice elems spare => uptoBulkAll elems + uptoBulkAll spare + 1
  | .agg parts => uptoBulkAll parts + 1
  | .iface _ d => uptoBulk d + 1
  | .map entries => uptoBulkEntries entries + 1
  | .held _ => 1
def uptoBulkAll {H : Type} : List (DataW H) → Nat
  | [] => 0
  | d :: r => uptoBulk d + uptoBulkAll r
def uptoBulkEntries {H : Type} : List (Lit × DataW H) → Nat
  | [] => 0
  | x :: r => uptoBulkEntry x + uptoBulkEntries r
def uptoBulkEntry {H : Type} : Lit × DataW H → Nat
  | (.string bytes, d) => bytes.length + uptoBulk d + 1
  | (_, d) => uptoBulk d + 1
 end
def uptoSmall : (H : Type) → List (DataW H) → Bool := fun _ ds => decide (uptoBulkAll ds ≤ 1048576)
def OpenSpec.upto (s : _root_.Go.ChangeSpec) : _root_.Go.OpenSpec := { _root_.Go.OpenSpec.ofChange s with cond := some uptoSmall }

/-- 'ravelinlaw5.ShelfPlays', WHERE WHAT IT READS IS OF BULK AT MOST 1048576: true; the input reads as it did. -/
def shelfPlaysUptoRow : OpenClaim := { program := "ytcljbddnnnbihaa", sum := "e726acc1ceec4967ed2833abeea2e6193aff268c5a2ab3fc1b4e3bbd425daf73", func := "ravelin/ravelinlaw5.ShelfPlays", spec := "shelfPlays", inPlace := ["maps.clone"], unfollowed := true, recurses := true, apart := false, narrowed := true }
def ShelfPlaysUptoSaid : Prop := shelfPlaysUptoRow.holds Try.pinned (OpenSpec.upto shelfPlaysSpec)

/-- 'ravelinlaw5.ShelfKeeps', WHERE WHAT IT READS IS OF BULK AT MOST 1048576: true; the input reads as it did. -/
def shelfKeepsUptoRow : OpenClaim := { program := "ytcljbddnnnbihaa", sum := "e726acc1ceec4967ed2833abeea2e6193aff268c5a2ab3fc1b4e3bbd425daf73", func := "ravelin/ravelinlaw5.ShelfKeeps", spec := "shelfKeeps", inPlace := ["maps.clone"], unfollowed := true, recurses := true, apart := false, narrowed := true }
def ShelfKeepsUptoSaid : Prop := shelfKeepsUptoRow.holds Try.pinned (OpenSpec.upto shelfKeepsSpec)

/-- 'ravelinlaw5.ShelfFull', WHERE WHAT IT READS IS OF BULK AT MOST 1048576: true; the input reads as it did. -/
def shelfFullUptoRow : OpenClaim := { program := "ytcljbddnnnbihaa", sum := "e726acc1ceec4967ed2833abeea2e6193aff268c5a2ab3fc1b4e3bbd425daf73", func := "ravelin/ravelinlaw5.ShelfFull", spec := "shelfFull", inPlace := ["maps.clone"], unfollowed := true, recurses := true, apart := false, narrowed := true }
def ShelfFullUptoSaid : Prop := shelfFullUptoRow.holds Try.pinned (OpenSpec.upto shelfFullSpec)

/-- 'ravelinlaw5.ShelfSwaps', WHERE WHAT IT READS IS OF BULK AT MOST 1048576: true; the input reads as it did. -/
def shelfSwapsUptoRow : OpenClaim := { program := "ytcljbddnnnbihaa", sum := "e726acc1ceec4967ed2833abeea2e6193aff268c5a2ab3fc1b4e3bbd425daf73", func := "ravelin/ravelinlaw5.ShelfSwaps", spec := "shelfSwaps", inPlace := ["maps.clone"], unfollowed := true, recurses := true, apart := false, narrowed := true }
def ShelfSwapsUptoSaid : Prop := shelfSwapsUptoRow.holds Try.pinned (OpenSpec.upto shelfSwapsSpec)

/-- 'ravelinlaw5.ShelfDrops', WHERE WHAT IT READS IS OF BULK AT MOST 1048576: true; the input reads as it did. -/
def shelfDropsUptoRow : OpenClaim := { program := "ytcljbddnnnbihaa", sum := "e726acc1ceec4967ed2833abeea2e6193aff268c5a2ab3fc1b4e3bbd425daf73", func := "ravelin/ravelinlaw5.ShelfDrops", spec := "shelfDrops", inPlace := ["maps.clone"], unfollowed := true, recurses := true, apart := false, narrowed := true }
def ShelfDropsUptoSaid : Prop := shelfDropsUptoRow.holds Try.pinned (OpenSpec.upto shelfDropsSpec)

end Rows
end Go.Proofs.Ytcljbddnnnbihaa
