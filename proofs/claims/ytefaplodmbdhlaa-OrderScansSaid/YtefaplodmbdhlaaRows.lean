/-
  No cell of these rows narrows 'for every input' (looked for: loops, veiled, ifaces, maps, wideKeys, modest, calm, conditions, laid).
  DERIVED. THE GIVEN ROWS OF THIS SEAT. 3 by the template 'for every input the law returns true; each argument reads behind the call as it read before'; 0 by the template 'total and deterministic' (their statements: YtefaplodmbdhlaaTotals.lean).
  GIVEN WITH THE SEED: the statements are not yours to turn. If you find one false, say at which input.
  Laid BY PROGRAM, IN A SANDBOX (cutbox-rows.mjs): the forced cells as the released guide's own fill.sh prints them over the translation 7ea1607583cf7dd5… (all of the seat's roots in one cut). By AI agents, Wed Nov 11 2026. No macro, syntax, notation, axiom, sorry.
-/
import Derived.Test.YtefaplodmbdhlaaChecked
import GoSem.Claim
import GoSem.ClaimJoined
import GoSem.ClaimMapViews
import Derived.JoinedTies
import Derived.KernelRfl
namespace Go.Proofs.Ytefaplodmbdhlaa
/- THE CELL 'sum', in the pinned program and in every row, IS THE sha256 OF THE DUMP (.gsa) THAT YtefaplodmbdhlaaProg.lean LOADS. Nothing in Lean hashes anything: it is a label: what it is worth is what the hold of that sum in a sandbox is worth. -/
noncomputable def Try.pinned : Pinned := { name := "ytefaplodmbdhlaa", sum := "7ea1607583cf7dd529a8faa012586e649ace8b78e2f9e824686703f273e8e846", checked := Try.checked }
namespace Rows
def none {H : Type} : Left H := { results := [], args := [] }

/-- 'ravelinlaw25.OrderSees': WHATEVER THE INPUT: true; the input reads as it did. -/
def orderSeesSpec : ChangeSpec := { name := "orderSees", fn := fun _ => fun
  | [d1, d2, d3] => { results := [.lit (.bool true)], args := [d1, d2, d3] }
  | _ => none }
def orderSeesRow : OpenClaim := { program := "ytefaplodmbdhlaa", sum := "7ea1607583cf7dd529a8faa012586e649ace8b78e2f9e824686703f273e8e846", func := "ravelin/ravelinlaw25.OrderSees", spec := "orderSees", unfollowed := true, recurses := true, apart := false }
def OrderSeesSaid : Prop := orderSeesRow.holds Try.pinned (OpenSpec.ofChange orderSeesSpec)

/-- ITS FALSE NEIGHBOUR: 'it returns false'. Refute it at one input. -/
def orderSeesWrong : ChangeSpec := { name := "orderSees", fn := fun _ => fun
  | [d1, d2, d3] => { results := [.lit (.bool false)], args := [d1, d2, d3] }
  | _ => none }
def OrderSeesWrongFalsely : Prop := orderSeesRow.holds Try.pinned (OpenSpec.ofChange orderSeesWrong)

/-- 'ravelinlaw25.OrderTurns': WHATEVER THE INPUT: true; the input reads as it did. -/
def orderTurnsSpec : ChangeSpec := { name := "orderTurns", fn := fun _ => fun
  | [d1, d2, d3] => { results := [.lit (.bool true)], args := [d1, d2, d3] }
  | _ => none }
def orderTurnsRow : OpenClaim := { program := "ytefaplodmbdhlaa", sum := "7ea1607583cf7dd529a8faa012586e649ace8b78e2f9e824686703f273e8e846", func := "ravelin/ravelinlaw25.OrderTurns", spec := "orderTurns", unfollowed := true, recurses := true, apart := false }
def OrderTurnsSaid : Prop := orderTurnsRow.holds Try.pinned (OpenSpec.ofChange orderTurnsSpec)

/-- ITS FALSE NEIGHBOUR: 'it returns false'. Refute it at one input. -/
def orderTurnsWrong : ChangeSpec := { name := "orderTurns", fn := fun _ => fun
  | [d1, d2, d3] => { results := [.lit (.bool false)], args := [d1, d2, d3] }
  | _ => none }
def OrderTurnsWrongFalsely : Prop := orderTurnsRow.holds Try.pinned (OpenSpec.ofChange orderTurnsWrong)

/-- 'ravelinlaw25.OrderScans': WHATEVER THE INPUT: true; the input reads as it did. -/
def orderScansSpec : ChangeSpec := { name := "orderScans", fn := fun _ => fun
  | [d1, d2, d3, d4, d5] => { results := [.lit (.bool true)], args := [d1, d2, d3, d4, d5] }
  | _ => none }
def orderScansRow : OpenClaim := { program := "ytefaplodmbdhlaa", sum := "7ea1607583cf7dd529a8faa012586e649ace8b78e2f9e824686703f273e8e846", func := "ravelin/ravelinlaw25.OrderScans", spec := "orderScans", unfollowed := true, recurses := true, apart := false }
def OrderScansSaid : Prop := orderScansRow.holds Try.pinned (OpenSpec.ofChange orderScansSpec)

/-- ITS FALSE NEIGHBOUR: 'it returns false'. Refute it at one input. -/
def orderScansWrong : ChangeSpec := { name := "orderScans", fn := fun _ => fun
  | [d1, d2, d3, d4, d5] => { results := [.lit (.bool false)], args := [d1, d2, d3, d4, d5] }
  | _ => none }
def OrderScansWrongFalsely : Prop := orderScansRow.holds Try.pinned (OpenSpec.ofChange orderScansWrong)

/- THE SECOND FORM. 'bulk': how many values and letters a reading holds, each counted each time it is reached (what is shared counts as often as it is met; a slice's spare places count too). A statement '..UptoSaid' is the law's where the arguments, and the package variables that the reading takes, are together of bulk at most 1048576: NARROWER than '..Said'. Prove '..Said' where nothing that the law and all that it calls make is longer than what came in: it says more and counts as full. Else prove '..UptoSaid'. A law counts once. -/
mutual
def uptoBulk {H : Type} : DataW H → Nat
  | .lit (.string bytes) => bytes.length + 1
  | .lit _ => 1
  | .nil => 1
  | .ptr d => uptoBulk d + 1
  | .slice elems spare => uptoBulkAll elems + uptoBulkAll spare + 1
  | .agg parts => uptoBulkAll parts + 1
  | .iface _ d => uptoBulk d + 1
  | .map entries => uptoBulkEntries entries + 1
  | .held _ => 1
def uptoBulkAll {H : Type} : List (DataW H) → Nat
  | [] => 0
  | d :: r => uptoBulk d + uptoBulkAll r
def uptoBulkEntries {H : Type} : List (Lit × DataW H) → Nat
  | [] => 0
  | x :: r => uptoBulkEntry x + uptoBulkEntries r
def uptoBulkEntry {H : Type} : Lit × DataW H → Nat
  | (.string bytes, d) => bytes.length + uptoBulk d + 1
  | (_, d) => uptoBulk d + 1
 end
def uptoSmall : (H : Type) → List (DataW H) → Bool := fun _ ds => decide (uptoBulkAll ds ≤ 1048576)
def OpenSpec.upto (s : _root_.Go.ChangeSpec) : _root_.Go.OpenSpec := { _root_.Go.OpenSpec.ofChange s with cond := some uptoSmall }

/-- 'ravelinlaw25.OrderSees', WHERE WHAT IT READS IS OF BULK AT MOST 1048576: true; the input reads as it did. -/
def orderSeesUptoRow : OpenClaim := { program := "ytefaplodmbdhlaa", sum := "7ea1607583cf7dd529a8faa012586e649ace8b78e2f9e824686703f273e8e846", func := "ravelin/ravelinlaw25.OrderSees", spec := "orderSees", unfollowed := true, recurses := true, apart := false, narrowed := true }
def OrderSeesUptoSaid : Prop := orderSeesUptoRow.holds Try.pinned (OpenSpec.upto orderSeesSpec)

/-- 'ravelinlaw25.OrderTurns', WHERE WHAT IT READS IS OF BULK AT MOST 1048576: true; the input reads as it did. -/
def orderTurnsUptoRow : OpenClaim := { program := "ytefaplodmbdhlaa", sum := "7ea1607583cf7dd529a8faa012586e649ace8b78e2f9e824686703f273e8e846", func := "ravelin/ravelinlaw25.OrderTurns", spec := "orderTurns", unfollowed := true, recurses := true, apart := false, narrowed := true }
def OrderTurnsUptoSaid : Prop := orderTurnsUptoRow.holds Try.pinned (OpenSpec.upto orderTurnsSpec)

/-- 'ravelinlaw25.OrderScans', WHERE WHAT IT READS IS OF BULK AT MOST 1048576: true; the input reads as it did. -/
def orderScansUptoRow : OpenClaim := { program := "ytefaplodmbdhlaa", sum := "7ea1607583cf7dd529a8faa012586e649ace8b78e2f9e824686703f273e8e846", func := "ravelin/ravelinlaw25.OrderScans", spec := "orderScans", unfollowed := true, recurses := true, apart := false, narrowed := true }
def OrderScansUptoSaid : Prop := orderScansUptoRow.holds Try.pinned (OpenSpec.upto orderScansSpec)

end Rows
end Go.Proofs.Ytefaplodmbdhlaa
