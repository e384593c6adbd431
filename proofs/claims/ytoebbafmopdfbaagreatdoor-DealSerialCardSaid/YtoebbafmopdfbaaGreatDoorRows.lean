/-
  NARROWER THAN 'FOR EVERY INPUT', by the rows' own cells (each row's printed sentence says how): SnapRanges: laid · EngineTail: laid · DealLimits: laid · DealSerial: laid · DealPhantoms: laid · DealOwn: laid · EngineFull: laid · EngineMany: laid · EngineAgain: laid · EngineNothing: laid · EnginePlays: laid · EngineHolds: laid.
  DERIVED. THE GIVEN ROWS OF THIS SEAT. 12 by the template 'for every input the law returns true; each argument reads behind the call as it read before'; 0 by the template 'total and deterministic' (their statements: YtoebbafmopdfbaaGreatDoorTotals.lean).
  GIVEN WITH THE SEED: the statements are not yours to turn. If you find one false, say at which input.
  Laid BY PROGRAM, IN A SANDBOX (cutbox-rows.mjs): the forced cells as the released guide's own fill.sh prints them over the translation 8bb63ba30690ded8… (all of the seat's roots in one cut). By AI agents, Wed Nov 11 2026. No macro, syntax, notation, axiom, sorry.
-/
import Derived.Test.YtoebbafmopdfbaaGreatDoorChecked
import GoSem.Claim
import GoSem.ClaimJoined
import GoSem.ClaimMapViews
import Derived.JoinedTies
import Derived.KernelRfl
namespace Go.Proofs.YtoebbafmopdfbaaGreatDoor
/- THE CELL 'sum', in the pinned program and in every row, IS THE sha256 OF THE DUMP (.gsa) THAT YtoebbafmopdfbaaGreatDoorProg.lean LOADS. Nothing in Lean hashes anything: it is a label: what it is worth is what the hold of that sum in a sandbox is worth. -/
noncomputable def Tryz.pinned : Pinned := { name := "ytoebbafmopdfbaagreatdoor", sum := "8bb63ba30690ded8e146a12811cbb3b898aad29d9bfe19e1763cdd5dea9f3b55", checked := Tryz.checked }
namespace Rows
def none {H : Type} : Left H := { results := [], args := [] }

/- WHAT THE LISTED PACKAGE-LEVEL VARIABLES READ AS WHEN THE CALL BEGINS. Each datum BY PROGRAM (the guide's laid-datum.mjs) off the statement by which the dump's own 'gosem.cut.vars' lays the variable. In a bare row this is a premise. The card (YtoebbafmopdfbaaGreatDoorCards.lean) ties it to the program's text. -/
def laid_math_bits_deBruijn32tab {H : Type} : DataW H := .agg [.lit (.int .u8 0), .lit (.int .u8 1), .lit (.int .u8 28), .lit (.int .u8 2), .lit (.int .u8 29), .lit (.int .u8 14), .lit (.int .u8 24), .lit (.int .u8 3), .lit (.int .u8 30), .lit (.int .u8 22), .lit (.int .u8 20), .lit (.int .u8 15), .lit (.int .u8 25), .lit (.int .u8 17), .lit (.int .u8 4), .lit (.int .u8 8), .lit (.int .u8 31), .lit (.int .u8 27), .lit (.int .u8 13), .lit (.int .u8 23), .lit (.int .u8 21), .lit (.int .u8 19), .lit (.int .u8 16), .lit (.int .u8 7), .lit (.int .u8 26), .lit (.int .u8 12), .lit (.int .u8 18), .lit (.int .u8 6), .lit (.int .u8 11), .lit (.int .u8 5), .lit (.int .u8 10), .lit (.int .u8 9)]
def laid_math_bits_deBruijn64tab {H : Type} : DataW H := .agg [.lit (.int .u8 0), .lit (.int .u8 1), .lit (.int .u8 56), .lit (.int .u8 2), .lit (.int .u8 57), .lit (.int .u8 49), .lit (.int .u8 28), .lit (.int .u8 3), .lit (.int .u8 61), .lit (.int .u8 58), .lit (.int .u8 42), .lit (.int .u8 50), .lit (.int .u8 38), .lit (.int .u8 29), .lit (.int .u8 17), .lit (.int .u8 4), .lit (.int .u8 62), .lit (.int .u8 47), .lit (.int .u8 59), .lit (.int .u8 36), .lit (.int .u8 45), .lit (.int .u8 43), .lit (.int .u8 51), .lit (.int .u8 22), .lit (.int .u8 53), .lit (.int .u8 39), .lit (.int .u8 33), .lit (.int .u8 30), .lit (.int .u8 24), .lit (.int .u8 18), .lit (.int .u8 12), .lit (.int .u8 5), .lit (.int .u8 63), .lit (.int .u8 55), .lit (.int .u8 48), .lit (.int .u8 27), .lit (.int .u8 60), .lit (.int .u8 41), .lit (.int .u8 37), .lit (.int .u8 16), .lit (.int .u8 46), .lit (.int .u8 35), .lit (.int .u8 44), .lit (.int .u8 21), .lit (.int .u8 52), .lit (.int .u8 32), .lit (.int .u8 23), .lit (.int .u8 11), .lit (.int .u8 54), .lit (.int .u8 26), .lit (.int .u8 40), .lit (.int .u8 15), .lit (.int .u8 34), .lit (.int .u8 20), .lit (.int .u8 31), .lit (.int .u8 10), .lit (.int .u8 25), .lit (.int .u8 14), .lit (.int .u8 19), .lit (.int .u8 9), .lit (.int .u8 13), .lit (.int .u8 8), .lit (.int .u8 7), .lit (.int .u8 6)]
def laid_internal_strconv_uint64pow10 {H : Type} : DataW H := .agg [.lit (.int .u64 1), .lit (.int .u64 10), .lit (.int .u64 100), .lit (.int .u64 1000), .lit (.int .u64 10000), .lit (.int .u64 100000), .lit (.int .u64 1000000), .lit (.int .u64 10000000), .lit (.int .u64 100000000), .lit (.int .u64 1000000000), .lit (.int .u64 10000000000), .lit (.int .u64 100000000000), .lit (.int .u64 1000000000000), .lit (.int .u64 10000000000000), .lit (.int .u64 100000000000000), .lit (.int .u64 1000000000000000), .lit (.int .u64 10000000000000000), .lit (.int .u64 100000000000000000), .lit (.int .u64 1000000000000000000), .lit (.int .u64 10000000000000000000)]

/-- 'ravelinlaw16.SnapRanges': WHATEVER THE INPUT: true; the input reads as it did. -/
def snapRangesSpec : ChangeSpec := { name := "snapRanges", fn := fun _ => fun
  | [d1, d2, d3, d4, d5] => { results := [.lit (.bool true)], args := [d1, d2, d3, d4, d5] }
  | _ => none }
def snapRangesRow : OpenClaim := { program := "ytoebbafmopdfbaagreatdoor", sum := "8bb63ba30690ded8e146a12811cbb3b898aad29d9bfe19e1763cdd5dea9f3b55", func := "ravelin/ravelinlaw16.SnapRanges", spec := "snapRanges", inPlace := ["internal/abi.NoEscape", "internal/bytealg.MakeNoZero", "maps.clone", "internal/bytealg.abigen_runtime_cmpstring", "slices.overlaps[ravelin/api.Entry]"], unfollowed := true, recurses := true, named := ["internal/strconv.uint64pow10", "math/bits.deBruijn32tab", "math/bits.deBruijn64tab"], leaving := true, apart := false, laid := [("math/bits.deBruijn32tab", laid_math_bits_deBruijn32tab), ("math/bits.deBruijn64tab", laid_math_bits_deBruijn64tab), ("internal/strconv.uint64pow10", laid_internal_strconv_uint64pow10)] }
def SnapRangesSaid : Prop := snapRangesRow.holds Tryz.pinned (OpenSpec.ofChange snapRangesSpec)

/-- ITS FALSE NEIGHBOUR: 'it returns false'. Refute it at one input. -/
def snapRangesWrong : ChangeSpec := { name := "snapRanges", fn := fun _ => fun
  | [d1, d2, d3, d4, d5] => { results := [.lit (.bool false)], args := [d1, d2, d3, d4, d5] }
  | _ => none }
def SnapRangesWrongFalsely : Prop := snapRangesRow.holds Tryz.pinned (OpenSpec.ofChange snapRangesWrong)

/-- 'ravelinlaw15.EngineTail': WHATEVER THE INPUT: true; the input reads as it did. -/
def engineTailSpec : ChangeSpec := { name := "engineTail", fn := fun _ => fun
  | [d1, d2, d3] => { results := [.lit (.bool true)], args := [d1, d2, d3] }
  | _ => none }
def engineTailRow : OpenClaim := { program := "ytoebbafmopdfbaagreatdoor", sum := "8bb63ba30690ded8e146a12811cbb3b898aad29d9bfe19e1763cdd5dea9f3b55", func := "ravelin/ravelinlaw15.EngineTail", spec := "engineTail", inPlace := ["internal/abi.NoEscape", "internal/bytealg.MakeNoZero", "maps.clone", "internal/bytealg.abigen_runtime_cmpstring", "slices.overlaps[ravelin/api.Entry]"], unfollowed := true, recurses := true, named := ["internal/strconv.uint64pow10", "math/bits.deBruijn32tab", "math/bits.deBruijn64tab"], leaving := true, apart := false, laid := [("math/bits.deBruijn32tab", laid_math_bits_deBruijn32tab), ("math/bits.deBruijn64tab", laid_math_bits_deBruijn64tab), ("internal/strconv.uint64pow10", laid_internal_strconv_uint64pow10)] }
def EngineTailSaid : Prop := engineTailRow.holds Tryz.pinned (OpenSpec.ofChange engineTailSpec)

/-- ITS FALSE NEIGHBOUR: 'it returns false'. Refute it at one input. -/
def engineTailWrong : ChangeSpec := { name := "engineTail", fn := fun _ => fun
  | [d1, d2, d3] => { results := [.lit (.bool false)], args := [d1, d2, d3] }
  | _ => none }
def EngineTailWrongFalsely : Prop := engineTailRow.holds Tryz.pinned (OpenSpec.ofChange engineTailWrong)

/-- 'ravelinlaw17.DealLimits': WHATEVER THE INPUT: true; the input reads as it did. -/
def dealLimitsSpec : ChangeSpec := { name := "dealLimits", fn := fun _ => fun
  | [d1, d2, d3] => { results := [.lit (.bool true)], args := [d1, d2, d3] }
  | _ => none }
def dealLimitsRow : OpenClaim := { program := "ytoebbafmopdfbaagreatdoor", sum := "8bb63ba30690ded8e146a12811cbb3b898aad29d9bfe19e1763cdd5dea9f3b55", func := "ravelin/ravelinlaw17.DealLimits", spec := "dealLimits", inPlace := ["internal/abi.NoEscape", "internal/bytealg.MakeNoZero", "maps.clone", "internal/bytealg.abigen_runtime_cmpstring", "slices.overlaps[ravelin/api.Entry]"], unfollowed := true, recurses := true, named := ["internal/strconv.uint64pow10", "math/bits.deBruijn32tab", "math/bits.deBruijn64tab"], leaving := true, apart := false, laid := [("math/bits.deBruijn32tab", laid_math_bits_deBruijn32tab), ("math/bits.deBruijn64tab", laid_math_bits_deBruijn64tab), ("internal/strconv.uint64pow10", laid_internal_strconv_uint64pow10)] }
def DealLimitsSaid : Prop := dealLimitsRow.holds Tryz.pinned (OpenSpec.ofChange dealLimitsSpec)

/-- ITS FALSE NEIGHBOUR: 'it returns false'. Refute it at one input. -/
def dealLimitsWrong : ChangeSpec := { name := "dealLimits", fn := fun _ => fun
  | [d1, d2, d3] => { results := [.lit (.bool false)], args := [d1, d2, d3] }
  | _ => none }
def DealLimitsWrongFalsely : Prop := dealLimitsRow.holds Tryz.pinned (OpenSpec.ofChange dealLimitsWrong)

/-- 'ravelinlaw17.DealSerial': WHATEVER THE INPUT: true; the input reads as it did. -/
def dealSerialSpec : ChangeSpec := { name := "dealSerial", fn := fun _ => fun
  | [d] => { results := [.lit (.bool true)], args := [d] }
  | _ => none }
def dealSerialRow : OpenClaim := { program := "ytoebbafmopdfbaagreatdoor", sum := "8bb63ba30690ded8e146a12811cbb3b898aad29d9bfe19e1763cdd5dea9f3b55", func := "ravelin/ravelinlaw17.DealSerial", spec := "dealSerial", inPlace := ["internal/abi.NoEscape", "internal/bytealg.MakeNoZero", "maps.clone", "internal/bytealg.abigen_runtime_cmpstring", "slices.overlaps[ravelin/api.Entry]"], unfollowed := true, recurses := true, named := ["internal/strconv.uint64pow10", "math/bits.deBruijn32tab", "math/bits.deBruijn64tab"], leaving := true, apart := false, laid := [("math/bits.deBruijn32tab", laid_math_bits_deBruijn32tab), ("math/bits.deBruijn64tab", laid_math_bits_deBruijn64tab), ("internal/strconv.uint64pow10", laid_internal_strconv_uint64pow10)] }
def DealSerialSaid : Prop := dealSerialRow.holds Tryz.pinned (OpenSpec.ofChange dealSerialSpec)

/-- ITS FALSE NEIGHBOUR: 'it returns false'. Refute it at one input. -/
def dealSerialWrong : ChangeSpec := { name := "dealSerial", fn := fun _ => fun
  | [d] => { results := [.lit (.bool false)], args := [d] }
  | _ => none }
def DealSerialWrongFalsely : Prop := dealSerialRow.holds Tryz.pinned (OpenSpec.ofChange dealSerialWrong)

/-- 'ravelinlaw17.DealPhantoms': WHATEVER THE INPUT: true; the input reads as it did. -/
def dealPhantomsSpec : ChangeSpec := { name := "dealPhantoms", fn := fun _ => fun
  | [d1, d2, d3, d4] => { results := [.lit (.bool true)], args := [d1, d2, d3, d4] }
  | _ => none }
def dealPhantomsRow : OpenClaim := { program := "ytoebbafmopdfbaagreatdoor", sum := "8bb63ba30690ded8e146a12811cbb3b898aad29d9bfe19e1763cdd5dea9f3b55", func := "ravelin/ravelinlaw17.DealPhantoms", spec := "dealPhantoms", inPlace := ["internal/abi.NoEscape", "internal/bytealg.MakeNoZero", "maps.clone", "internal/bytealg.abigen_runtime_cmpstring", "slices.overlaps[ravelin/api.Entry]"], unfollowed := true, recurses := true, named := ["internal/strconv.uint64pow10", "math/bits.deBruijn32tab", "math/bits.deBruijn64tab"], leaving := true, apart := false, laid := [("math/bits.deBruijn32tab", laid_math_bits_deBruijn32tab), ("math/bits.deBruijn64tab", laid_math_bits_deBruijn64tab), ("internal/strconv.uint64pow10", laid_internal_strconv_uint64pow10)] }
def DealPhantomsSaid : Prop := dealPhantomsRow.holds Tryz.pinned (OpenSpec.ofChange dealPhantomsSpec)

/-- ITS FALSE NEIGHBOUR: 'it returns false'. Refute it at one input. -/
def dealPhantomsWrong : ChangeSpec := { name := "dealPhantoms", fn := fun _ => fun
  | [d1, d2, d3, d4] => { results := [.lit (.bool false)], args := [d1, d2, d3, d4] }
  | _ => none }
def DealPhantomsWrongFalsely : Prop := dealPhantomsRow.holds Tryz.pinned (OpenSpec.ofChange dealPhantomsWrong)

/-- 'ravelinlaw17.DealOwn': WHATEVER THE INPUT: true; the input reads as it did. -/
def dealOwnSpec : ChangeSpec := { name := "dealOwn", fn := fun _ => fun
  | [d1, d2] => { results := [.lit (.bool true)], args := [d1, d2] }
  | _ => none }
def dealOwnRow : OpenClaim := { program := "ytoebbafmopdfbaagreatdoor", sum := "8bb63ba30690ded8e146a12811cbb3b898aad29d9bfe19e1763cdd5dea9f3b55", func := "ravelin/ravelinlaw17.DealOwn", spec := "dealOwn", inPlace := ["internal/abi.NoEscape", "internal/bytealg.MakeNoZero", "maps.clone", "internal/bytealg.abigen_runtime_cmpstring", "slices.overlaps[ravelin/api.Entry]"], unfollowed := true, recurses := true, named := ["internal/strconv.uint64pow10", "math/bits.deBruijn32tab", "math/bits.deBruijn64tab"], leaving := true, apart := false, laid := [("math/bits.deBruijn32tab", laid_math_bits_deBruijn32tab), ("math/bits.deBruijn64tab", laid_math_bits_deBruijn64tab), ("internal/strconv.uint64pow10", laid_internal_strconv_uint64pow10)] }
def DealOwnSaid : Prop := dealOwnRow.holds Tryz.pinned (OpenSpec.ofChange dealOwnSpec)

/-- ITS FALSE NEIGHBOUR: 'it returns false'. Refute it at one input. -/
def dealOwnWrong : ChangeSpec := { name := "dealOwn", fn := fun _ => fun
  | [d1, d2] => { results := [.lit (.bool false)], args := [d1, d2] }
  | _ => none }
def DealOwnWrongFalsely : Prop := dealOwnRow.holds Tryz.pinned (OpenSpec.ofChange dealOwnWrong)

/-- 'ravelinlaw15.EngineFull': WHATEVER THE INPUT: true; the input reads as it did. -/
def engineFullSpec : ChangeSpec := { name := "engineFull", fn := fun _ => fun
  | [d1, d2, d3] => { results := [.lit (.bool true)], args := [d1, d2, d3] }
  | _ => none }
def engineFullRow : OpenClaim := { program := "ytoebbafmopdfbaagreatdoor", sum := "8bb63ba30690ded8e146a12811cbb3b898aad29d9bfe19e1763cdd5dea9f3b55", func := "ravelin/ravelinlaw15.EngineFull", spec := "engineFull", inPlace := ["internal/abi.NoEscape", "internal/bytealg.MakeNoZero", "maps.clone", "internal/bytealg.abigen_runtime_cmpstring", "slices.overlaps[ravelin/api.Entry]"], unfollowed := true, recurses := true, named := ["internal/strconv.uint64pow10", "math/bits.deBruijn32tab", "math/bits.deBruijn64tab"], leaving := true, apart := false, laid := [("math/bits.deBruijn32tab", laid_math_bits_deBruijn32tab), ("math/bits.deBruijn64tab", laid_math_bits_deBruijn64tab), ("internal/strconv.uint64pow10", laid_internal_strconv_uint64pow10)] }
def EngineFullSaid : Prop := engineFullRow.holds Tryz.pinned (OpenSpec.ofChange engineFullSpec)

/-- ITS FALSE NEIGHBOUR: 'it returns false'. Refute it at one input. -/
def engineFullWrong : ChangeSpec := { name := "engineFull", fn := fun _ => fun
  | [d1, d2, d3] => { results := [.lit (.bool false)], args := [d1, d2, d3] }
  | _ => none }
def EngineFullWrongFalsely : Prop := engineFullRow.holds Tryz.pinned (OpenSpec.ofChange engineFullWrong)

/-- 'ravelinlaw15.EngineMany': WHATEVER THE INPUT: true; the input reads as it did. -/
def engineManySpec : ChangeSpec := { name := "engineMany", fn := fun _ => fun
  | [d1, d2, d3] => { results := [.lit (.bool true)], args := [d1, d2, d3] }
  | _ => none }
def engineManyRow : OpenClaim := { program := "ytoebbafmopdfbaagreatdoor", sum := "8bb63ba30690ded8e146a12811cbb3b898aad29d9bfe19e1763cdd5dea9f3b55", func := "ravelin/ravelinlaw15.EngineMany", spec := "engineMany", inPlace := ["internal/abi.NoEscape", "internal/bytealg.MakeNoZero", "maps.clone", "internal/bytealg.abigen_runtime_cmpstring", "slices.overlaps[ravelin/api.Entry]"], unfollowed := true, recurses := true, named := ["internal/strconv.uint64pow10", "math/bits.deBruijn32tab", "math/bits.deBruijn64tab"], leaving := true, apart := false, laid := [("math/bits.deBruijn32tab", laid_math_bits_deBruijn32tab), ("math/bits.deBruijn64tab", laid_math_bits_deBruijn64tab), ("internal/strconv.uint64pow10", laid_internal_strconv_uint64pow10)] }
def EngineManySaid : Prop := engineManyRow.holds Tryz.pinned (OpenSpec.ofChange engineManySpec)

/-- ITS FALSE NEIGHBOUR: 'it returns false'. Refute it at one input. -/
def engineManyWrong : ChangeSpec := { name := "engineMany", fn := fun _ => fun
  | [d1, d2, d3] => { results := [.lit (.bool false)], args := [d1, d2, d3] }
  | _ => none }
def EngineManyWrongFalsely : Prop := engineManyRow.holds Tryz.pinned (OpenSpec.ofChange engineManyWrong)

/-- 'ravelinlaw15.EngineAgain': WHATEVER THE INPUT: true; the input reads as it did. -/
def engineAgainSpec : ChangeSpec := { name := "engineAgain", fn := fun _ => fun
  | [d1, d2, d3] => { results := [.lit (.bool true)], args := [d1, d2, d3] }
  | _ => none }
def engineAgainRow : OpenClaim := { program := "ytoebbafmopdfbaagreatdoor", sum := "8bb63ba30690ded8e146a12811cbb3b898aad29d9bfe19e1763cdd5dea9f3b55", func := "ravelin/ravelinlaw15.EngineAgain", spec := "engineAgain", inPlace := ["internal/abi.NoEscape", "internal/bytealg.MakeNoZero", "maps.clone", "internal/bytealg.abigen_runtime_cmpstring", "slices.overlaps[ravelin/api.Entry]"], unfollowed := true, recurses := true, named := ["internal/strconv.uint64pow10", "math/bits.deBruijn32tab", "math/bits.deBruijn64tab"], leaving := true, apart := false, laid := [("math/bits.deBruijn32tab", laid_math_bits_deBruijn32tab), ("math/bits.deBruijn64tab", laid_math_bits_deBruijn64tab), ("internal/strconv.uint64pow10", laid_internal_strconv_uint64pow10)] }
def EngineAgainSaid : Prop := engineAgainRow.holds Tryz.pinned (OpenSpec.ofChange engineAgainSpec)

/-- ITS FALSE NEIGHBOUR: 'it returns false'. Refute it at one input. -/
def engineAgainWrong : ChangeSpec := { name := "engineAgain", fn := fun _ => fun
  | [d1, d2, d3] => { results := [.lit (.bool false)], args := [d1, d2, d3] }
  | _ => none }
def EngineAgainWrongFalsely : Prop := engineAgainRow.holds Tryz.pinned (OpenSpec.ofChange engineAgainWrong)

/-- 'ravelinlaw15.EngineNothing': WHATEVER THE INPUT: true; the input reads as it did. -/
def engineNothingSpec : ChangeSpec := { name := "engineNothing", fn := fun _ => fun
  | [d1, d2] => { results := [.lit (.bool true)], args := [d1, d2] }
  | _ => none }
def engineNothingRow : OpenClaim := { program := "ytoebbafmopdfbaagreatdoor", sum := "8bb63ba30690ded8e146a12811cbb3b898aad29d9bfe19e1763cdd5dea9f3b55", func := "ravelin/ravelinlaw15.EngineNothing", spec := "engineNothing", inPlace := ["internal/abi.NoEscape", "internal/bytealg.MakeNoZero", "maps.clone", "internal/bytealg.abigen_runtime_cmpstring", "slices.overlaps[ravelin/api.Entry]"], unfollowed := true, recurses := true, named := ["internal/strconv.uint64pow10", "math/bits.deBruijn32tab", "math/bits.deBruijn64tab"], leaving := true, apart := false, laid := [("math/bits.deBruijn32tab", laid_math_bits_deBruijn32tab), ("math/bits.deBruijn64tab", laid_math_bits_deBruijn64tab), ("internal/strconv.uint64pow10", laid_internal_strconv_uint64pow10)] }
def EngineNothingSaid : Prop := engineNothingRow.holds Tryz.pinned (OpenSpec.ofChange engineNothingSpec)

/-- ITS FALSE NEIGHBOUR: 'it returns false'. Refute it at one input. -/
def engineNothingWrong : ChangeSpec := { name := "engineNothing", fn := fun _ => fun
  | [d1, d2] => { results := [.lit (.bool false)], args := [d1, d2] }
  | _ => none }
def EngineNothingWrongFalsely : Prop := engineNothingRow.holds Tryz.pinned (OpenSpec.ofChange engineNothingWrong)

/-- 'ravelinlaw15.EnginePlays': WHATEVER THE INPUT: true; the input reads as it did. -/
def enginePlaysSpec : ChangeSpec := { name := "enginePlays", fn := fun _ => fun
  | [d1, d2, d3, d4] => { results := [.lit (.bool true)], args := [d1, d2, d3, d4] }
  | _ => none }
def enginePlaysRow : OpenClaim := { program := "ytoebbafmopdfbaagreatdoor", sum := "8bb63ba30690ded8e146a12811cbb3b898aad29d9bfe19e1763cdd5dea9f3b55", func := "ravelin/ravelinlaw15.EnginePlays", spec := "enginePlays", inPlace := ["internal/abi.NoEscape", "internal/bytealg.MakeNoZero", "maps.clone", "internal/bytealg.abigen_runtime_cmpstring", "slices.overlaps[ravelin/api.Entry]"], unfollowed := true, recurses := true, named := ["internal/strconv.uint64pow10", "math/bits.deBruijn32tab", "math/bits.deBruijn64tab"], leaving := true, apart := false, laid := [("math/bits.deBruijn32tab", laid_math_bits_deBruijn32tab), ("math/bits.deBruijn64tab", laid_math_bits_deBruijn64tab), ("internal/strconv.uint64pow10", laid_internal_strconv_uint64pow10)] }
def EnginePlaysSaid : Prop := enginePlaysRow.holds Tryz.pinned (OpenSpec.ofChange enginePlaysSpec)

/-- ITS FALSE NEIGHBOUR: 'it returns false'. Refute it at one input. -/
def enginePlaysWrong : ChangeSpec := { name := "enginePlays", fn := fun _ => fun
  | [d1, d2, d3, d4] => { results := [.lit (.bool false)], args := [d1, d2, d3, d4] }
  | _ => none }
def EnginePlaysWrongFalsely : Prop := enginePlaysRow.holds Tryz.pinned (OpenSpec.ofChange enginePlaysWrong)

/-- 'ravelinlaw15.EngineHolds': WHATEVER THE INPUT: true; the input reads as it did. -/
def engineHoldsSpec : ChangeSpec := { name := "engineHolds", fn := fun _ => fun
  | [d1, d2] => { results := [.lit (.bool true)], args := [d1, d2] }
  | _ => none }
def engineHoldsRow : OpenClaim := { program := "ytoebbafmopdfbaagreatdoor", sum := "8bb63ba30690ded8e146a12811cbb3b898aad29d9bfe19e1763cdd5dea9f3b55", func := "ravelin/ravelinlaw15.EngineHolds", spec := "engineHolds", inPlace := ["internal/abi.NoEscape", "internal/bytealg.MakeNoZero", "maps.clone", "internal/bytealg.abigen_runtime_cmpstring", "slices.overlaps[ravelin/api.Entry]"], unfollowed := true, recurses := true, named := ["internal/strconv.uint64pow10", "math/bits.deBruijn32tab", "math/bits.deBruijn64tab"], leaving := true, apart := false, laid := [("math/bits.deBruijn32tab", laid_math_bits_deBruijn32tab), ("math/bits.deBruijn64tab", laid_math_bits_deBruijn64tab), ("internal/strconv.uint64pow10", laid_internal_strconv_uint64pow10)] }
def EngineHoldsSaid : Prop := engineHoldsRow.holds Tryz.pinned (OpenSpec.ofChange engineHoldsSpec)

/-- ITS FALSE NEIGHBOUR: 'it returns false'. Refute it at one input. -/
def engineHoldsWrong : ChangeSpec := { name := "engineHolds", fn := fun _ => fun
  | [d1, d2] => { results := [.lit (.bool false)], args := [d1, d2] }
  | _ => none }
def EngineHoldsWrongFalsely : Prop := engineHoldsRow.holds Tryz.pinned (OpenSpec.ofChange engineHoldsWrong)

/- THE SECOND FORM. 'bulk': how many values and letters a reading holds, each counted each time it is reached (what is shared counts as often as it is met; a slice's spare places count too). A statement '..UptoSaid' is the law's where the arguments, and the package variables that the reading takes, are together of bulk at most 1048576: NARROWER than '..Said'. Prove '..Said' where nothing that the law and all that it calls make is longer than what came in: it says more and counts as full. Else prove '..UptoSaid'. A law counts once. -/
mutual
def uptoBulk {H : Type} : DataW H → Nat
  | .lit (.string bytes) => bytes.length + 1
  | .lit _ => 1
  | .nil => 1
  | .ptr d => uptoBulk d + 1
  | .slice elems spare => uptoBulkAll elems + uptoBulkAll spare + 1
  | .agg parts => uptoBulkAll parts + 1
  | .iface _ d => uptoBulk d + 1
  | .map entries => uptoBulkEntries entries + 1
  | .held _ => 1
def uptoBulkAll {H : Type} : List (DataW H) → Nat
  | [] => 0
  | d :: r => uptoBulk d + uptoBulkAll r
def uptoBulkEntries {H : Type} : List (Lit × DataW H) → Nat
  | [] => 0
  | x :: r => uptoBulkEntry x + uptoBulkEntries r
def uptoBulkEntry {H : Type} : Lit × DataW H → Nat
  | (.string bytes, d) => bytes.length + uptoBulk d + 1
  | (_, d) => uptoBulk d + 1
 end
def uptoSmall : (H : Type) → List (DataW H) → Bool := fun _ ds => decide (uptoBulkAll ds ≤ 1048576)
def OpenSpec.upto (s : _root_.Go.ChangeSpec) : _root_.Go.OpenSpec := { _root_.Go.OpenSpec.ofChange s with cond := some uptoSmall }

/-- 'ravelinlaw16.SnapRanges', WHERE WHAT IT READS IS OF BULK AT MOST 1048576: true; the input reads as it did. -/
def snapRangesUptoRow : OpenClaim := { program := "ytoebbafmopdfbaagreatdoor", sum := "8bb63ba30690ded8e146a12811cbb3b898aad29d9bfe19e1763cdd5dea9f3b55", func := "ravelin/ravelinlaw16.SnapRanges", spec := "snapRanges", inPlace := ["internal/abi.NoEscape", "internal/bytealg.MakeNoZero", "maps.clone", "internal/bytealg.abigen_runtime_cmpstring", "slices.overlaps[ravelin/api.Entry]"], unfollowed := true, recurses := true, named := ["internal/strconv.uint64pow10", "math/bits.deBruijn32tab", "math/bits.deBruijn64tab"], leaving := true, apart := false, laid := [("math/bits.deBruijn32tab", laid_math_bits_deBruijn32tab), ("math/bits.deBruijn64tab", laid_math_bits_deBruijn64tab), ("internal/strconv.uint64pow10", laid_internal_strconv_uint64pow10)], narrowed := true }
def SnapRangesUptoSaid : Prop := snapRangesUptoRow.holds Tryz.pinned (OpenSpec.upto snapRangesSpec)

/-- 'ravelinlaw15.EngineTail', WHERE WHAT IT READS IS OF BULK AT MOST 1048576: true; the input reads as it did. -/
def engineTailUptoRow : OpenClaim := { program := "ytoebbafmopdfbaagreatdoor", sum := "8bb63ba30690ded8e146a12811cbb3b898aad29d9bfe19e1763cdd5dea9f3b55", func := "ravelin/ravelinlaw15.EngineTail", spec := "engineTail", inPlace := ["internal/abi.NoEscape", "internal/bytealg.MakeNoZero", "maps.clone", "internal/bytealg.abigen_runtime_cmpstring", "slices.overlaps[ravelin/api.Entry]"], unfollowed := true, recurses := true, named := ["internal/strconv.uint64pow10", "math/bits.deBruijn32tab", "math/bits.deBruijn64tab"], leaving := true, apart := false, laid := [("math/bits.deBruijn32tab", laid_math_bits_deBruijn32tab), ("math/bits.deBruijn64tab", laid_math_bits_deBruijn64tab), ("internal/strconv.uint64pow10", laid_internal_strconv_uint64pow10)], narrowed := true }
def EngineTailUptoSaid : Prop := engineTailUptoRow.holds Tryz.pinned (OpenSpec.upto engineTailSpec)

/-- 'ravelinlaw17.DealLimits', WHERE WHAT IT READS IS OF BULK AT MOST 1048576: true; the input reads as it did. -/
def dealLimitsUptoRow : OpenClaim := { program := "ytoebbafmopdfbaagreatdoor", sum := "8bb63ba30690ded8e146a12811cbb3b898aad29d9bfe19e1763cdd5dea9f3b55", func := "ravelin/ravelinlaw17.DealLimits", spec := "dealLimits", inPlace := ["internal/abi.NoEscape", "internal/bytealg.MakeNoZero", "maps.clone", "internal/bytealg.abigen_runtime_cmpstring", "slices.overlaps[ravelin/api.Entry]"], unfollowed := true, recurses := true, named := ["internal/strconv.uint64pow10", "math/bits.deBruijn32tab", "math/bits.deBruijn64tab"], leaving := true, apart := false, laid := [("math/bits.deBruijn32tab", laid_math_bits_deBruijn32tab), ("math/bits.deBruijn64tab", laid_math_bits_deBruijn64tab), ("internal/strconv.uint64pow10", laid_internal_strconv_uint64pow10)], narrowed := true }
def DealLimitsUptoSaid : Prop := dealLimitsUptoRow.holds Tryz.pinned (OpenSpec.upto dealLimitsSpec)

/-- 'ravelinlaw17.DealSerial', WHERE WHAT IT READS IS OF BULK AT MOST 1048576: true; the input reads as it did. -/
def dealSerialUptoRow : OpenClaim := { program := "ytoebbafmopdfbaagreatdoor", sum := "8bb63ba30690ded8e146a12811cbb3b898aad29d9bfe19e1763cdd5dea9f3b55", func := "ravelin/ravelinlaw17.DealSerial", spec := "dealSerial", inPlace := ["internal/abi.NoEscape", "internal/bytealg.MakeNoZero", "maps.clone", "internal/bytealg.abigen_runtime_cmpstring", "slices.overlaps[ravelin/api.Entry]"], unfollowed := true, recurses := true, named := ["internal/strconv.uint64pow10", "math/bits.deBruijn32tab", "math/bits.deBruijn64tab"], leaving := true, apart := false, laid := [("math/bits.deBruijn32tab", laid_math_bits_deBruijn32tab), ("math/bits.deBruijn64tab", laid_math_bits_deBruijn64tab), ("internal/strconv.uint64pow10", laid_internal_strconv_uint64pow10)], narrowed := true }
def DealSerialUptoSaid : Prop := dealSerialUptoRow.holds Tryz.pinned (OpenSpec.upto dealSerialSpec)

/-- 'ravelinlaw17.DealPhantoms', WHERE WHAT IT READS IS OF BULK AT MOST 1048576: true; the input reads as it did. -/
def dealPhantomsUptoRow : OpenClaim := { program := "ytoebbafmopdfbaagreatdoor", sum := "8bb63ba30690ded8e146a12811cbb3b898aad29d9bfe19e1763cdd5dea9f3b55", func := "ravelin/ravelinlaw17.DealPhantoms", spec := "dealPhantoms", inPlace := ["internal/abi.NoEscape", "internal/bytealg.MakeNoZero", "maps.clone", "internal/bytealg.abigen_runtime_cmpstring", "slices.overlaps[ravelin/api.Entry]"], unfollowed := true, recurses := true, named := ["internal/strconv.uint64pow10", "math/bits.deBruijn32tab", "math/bits.deBruijn64tab"], leaving := true, apart := false, laid := [("math/bits.deBruijn32tab", laid_math_bits_deBruijn32tab), ("math/bits.deBruijn64tab", laid_math_bits_deBruijn64tab), ("internal/strconv.uint64pow10", laid_internal_strconv_uint64pow10)], narrowed := true }
def DealPhantomsUptoSaid : Prop := dealPhantomsUptoRow.holds Tryz.pinned (OpenSpec.upto dealPhantomsSpec)

/-- 'ravelinlaw17.DealOwn', WHERE WHAT IT READS IS OF BULK AT MOST 1048576: true; the input reads as it did. -/
def dealOwnUptoRow : OpenClaim := { program := "ytoebbafmopdfbaagreatdoor", sum := "8bb63ba30690ded8e146a12811cbb3b898aad29d9bfe19e1763cdd5dea9f3b55", func := "ravelin/ravelinlaw17.DealOwn", spec := "dealOwn", inPlace := ["internal/abi.NoEscape", "internal/bytealg.MakeNoZero", "maps.clone", "internal/bytealg.abigen_runtime_cmpstring", "slices.overlaps[ravelin/api.Entry]"], unfollowed := true, recurses := true, named := ["internal/strconv.uint64pow10", "math/bits.deBruijn32tab", "math/bits.deBruijn64tab"], leaving := true, apart := false, laid := [("math/bits.deBruijn32tab", laid_math_bits_deBruijn32tab), ("math/bits.deBruijn64tab", laid_math_bits_deBruijn64tab), ("internal/strconv.uint64pow10", laid_internal_strconv_uint64pow10)], narrowed := true }
def DealOwnUptoSaid : Prop := dealOwnUptoRow.holds Tryz.pinned (OpenSpec.upto dealOwnSpec)

/-- 'ravelinlaw15.EngineFull', WHERE WHAT IT READS IS OF BULK AT MOST 1048576: true; the input reads as it did. -/
def engineFullUptoRow : OpenClaim := { program := "ytoebbafmopdfbaagreatdoor", sum := "8bb63ba30690ded8e146a12811cbb3b898aad29d9bfe19e1763cdd5dea9f3b55", func := "ravelin/ravelinlaw15.EngineFull", spec := "engineFull", inPlace := ["internal/abi.NoEscape", "internal/bytealg.MakeNoZero", "maps.clone", "internal/bytealg.abigen_runtime_cmpstring", "slices.overlaps[ravelin/api.Entry]"], unfollowed := true, recurses := true, named := ["internal/strconv.uint64pow10", "math/bits.deBruijn32tab", "math/bits.deBruijn64tab"], leaving := true, apart := false, laid := [("math/bits.deBruijn32tab", laid_math_bits_deBruijn32tab), ("math/bits.deBruijn64tab", laid_math_bits_deBruijn64tab), ("internal/strconv.uint64pow10", laid_internal_strconv_uint64pow10)], narrowed := true }
def EngineFullUptoSaid : Prop := engineFullUptoRow.holds Tryz.pinned (OpenSpec.upto engineFullSpec)

/-- 'ravelinlaw15.EngineMany', WHERE WHAT IT READS IS OF BULK AT MOST 1048576: true; the input reads as it did. -/
def engineManyUptoRow : OpenClaim := { program := "ytoebbafmopdfbaagreatdoor", sum := "8bb63ba30690ded8e146a12811cbb3b898aad29d9bfe19e1763cdd5dea9f3b55", func := "ravelin/ravelinlaw15.EngineMany", spec := "engineMany", inPlace := ["internal/abi.NoEscape", "internal/bytealg.MakeNoZero", "maps.clone", "internal/bytealg.abigen_runtime_cmpstring", "slices.overlaps[ravelin/api.Entry]"], unfollowed := true, recurses := true, named := ["internal/strconv.uint64pow10", "math/bits.deBruijn32tab", "math/bits.deBruijn64tab"], leaving := true, apart := false, laid := [("math/bits.deBruijn32tab", laid_math_bits_deBruijn32tab), ("math/bits.deBruijn64tab", laid_math_bits_deBruijn64tab), ("internal/strconv.uint64pow10", laid_internal_strconv_uint64pow10)], narrowed := true }
def EngineManyUptoSaid : Prop := engineManyUptoRow.holds Tryz.pinned (OpenSpec.upto engineManySpec)

/-- 'ravelinlaw15.EngineAgain', WHERE WHAT IT READS IS OF BULK AT MOST 1048576: true; the input reads as it did. -/
def engineAgainUptoRow : OpenClaim := { program := "ytoebbafmopdfbaagreatdoor", sum := "8bb63ba30690ded8e146a12811cbb3b898aad29d9bfe19e1763cdd5dea9f3b55", func := "ravelin/ravelinlaw15.EngineAgain", spec := "engineAgain", inPlace := ["internal/abi.NoEscape", "internal/bytealg.MakeNoZero", "maps.clone", "internal/bytealg.abigen_runtime_cmpstring", "slices.overlaps[ravelin/api.Entry]"], unfollowed := true, recurses := true, named := ["internal/strconv.uint64pow10", "math/bits.deBruijn32tab", "math/bits.deBruijn64tab"], leaving := true, apart := false, laid := [("math/bits.deBruijn32tab", laid_math_bits_deBruijn32tab), ("math/bits.deBruijn64tab", laid_math_bits_deBruijn64tab), ("internal/strconv.uint64pow10", laid_internal_strconv_uint64pow10)], narrowed := true }
def EngineAgainUptoSaid : Prop := engineAgainUptoRow.holds Tryz.pinned (OpenSpec.upto engineAgainSpec)

/-- 'ravelinlaw15.EngineNothing', WHERE WHAT IT READS IS OF BULK AT MOST 1048576: true; the input reads as it did. -/
def engineNothingUptoRow : OpenClaim := { program := "ytoebbafmopdfbaagreatdoor", sum := "8bb63ba30690ded8e146a12811cbb3b898aad29d9bfe19e1763cdd5dea9f3b55", func := "ravelin/ravelinlaw15.EngineNothing", spec := "engineNothing", inPlace := ["internal/abi.NoEscape", "internal/bytealg.MakeNoZero", "maps.clone", "internal/bytealg.abigen_runtime_cmpstring", "slices.overlaps[ravelin/api.Entry]"], unfollowed := true, recurses := true, named := ["internal/strconv.uint64pow10", "math/bits.deBruijn32tab", "math/bits.deBruijn64tab"], leaving := true, apart := false, laid := [("math/bits.deBruijn32tab", laid_math_bits_deBruijn32tab), ("math/bits.deBruijn64tab", laid_math_bits_deBruijn64tab), ("internal/strconv.uint64pow10", laid_internal_strconv_uint64pow10)], narrowed := true }
def EngineNothingUptoSaid : Prop := engineNothingUptoRow.holds Tryz.pinned (OpenSpec.upto engineNothingSpec)

/-- 'ravelinlaw15.EnginePlays', WHERE WHAT IT READS IS OF BULK AT MOST 1048576: true; the input reads as it did. -/
def enginePlaysUptoRow : OpenClaim := { program := "ytoebbafmopdfbaagreatdoor", sum := "8bb63ba30690ded8e146a12811cbb3b898aad29d9bfe19e1763cdd5dea9f3b55", func := "ravelin/ravelinlaw15.EnginePlays", spec := "enginePlays", inPlace := ["internal/abi.NoEscape", "internal/bytealg.MakeNoZero", "maps.clone", "internal/bytealg.abigen_runtime_cmpstring", "slices.overlaps[ravelin/api.Entry]"], unfollowed := true, recurses := true, named := ["internal/strconv.uint64pow10", "math/bits.deBruijn32tab", "math/bits.deBruijn64tab"], leaving := true, apart := false, laid := [("math/bits.deBruijn32tab", laid_math_bits_deBruijn32tab), ("math/bits.deBruijn64tab", laid_math_bits_deBruijn64tab), ("internal/strconv.uint64pow10", laid_internal_strconv_uint64pow10)], narrowed := true }
def EnginePlaysUptoSaid : Prop := enginePlaysUptoRow.holds Tryz.pinned (OpenSpec.upto enginePlaysSpec)

/-- 'ravelinlaw15.EngineHolds', WHERE WHAT IT READS IS OF BULK AT MOST 1048576: true; the input reads as it did. -/
def engineHoldsUptoRow : OpenClaim := { program := "ytoebbafmopdfbaagreatdoor", sum := "8bb63ba30690ded8e146a12811cbb3b898aad29d9bfe19e1763cdd5dea9f3b55", func := "ravelin/ravelinlaw15.EngineHolds", spec := "engineHolds", inPlace := ["internal/abi.NoEscape", "internal/bytealg.MakeNoZero", "maps.clone", "internal/bytealg.abigen_runtime_cmpstring", "slices.overlaps[ravelin/api.Entry]"], unfollowed := true, recurses := true, named := ["internal/strconv.uint64pow10", "math/bits.deBruijn32tab", "math/bits.deBruijn64tab"], leaving := true, apart := false, laid := [("math/bits.deBruijn32tab", laid_math_bits_deBruijn32tab), ("math/bits.deBruijn64tab", laid_math_bits_deBruijn64tab), ("internal/strconv.uint64pow10", laid_internal_strconv_uint64pow10)], narrowed := true }
def EngineHoldsUptoSaid : Prop := engineHoldsUptoRow.holds Tryz.pinned (OpenSpec.upto engineHoldsSpec)

end Rows
end Go.Proofs.YtoebbafmopdfbaaGreatDoor
