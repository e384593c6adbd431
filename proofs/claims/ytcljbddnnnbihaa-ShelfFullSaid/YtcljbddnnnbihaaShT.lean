/- A part of the proofs that a law function returns true at every input; it has no condition of its own. -/
import Derived.Test.YtcljbddnnnbihaaProg
import Derived.KernelRfl
import Derived.Test.YtcljbddnnnbihaaAbK
set_option linter.unusedSimpArgs false
set_option linter.unusedVariables false
/- ShT: Facts on the shelf laws' program: its types. Printed by wip/tools/gentypes.py. -/
namespace Go.Ab.Sh
open Go Go.Conc Go.RowKit Go.Ab
noncomputable abbrev pp : Program := Go.Proofs.Try.prog
theorem mixed : pp.follows .mixedOrders = true := by kernel_rfl
/-- Shelves alone are objects that pointers lead to. -/
def isO : ObjT := fun t => t == 57 || t == 61
theorem ia2 : isAggT pp 2 = false := by kernel_rfl
theorem cn2 : pp.cellsOf 2 = 1 := by kernel_rfl
theorem bn2 : pp.bytesOf 2 = 8 := by kernel_rfl
theorem us2 : (pp.underlying 2).isSome = true := by kernel_rfl
theorem zi2 : (pp.info? 2).any (·.zero.isSome) = true := by kernel_rfl
theorem zd2_4 : zeroDV pp 4 2 = [.int .i64 (0)] := by kernel_rfl
theorem zo2_4 : zeroOk pp 2 [.int .i64 (0)] = true := by rw [← zd2_4]; kernel_rfl
theorem zd2_6 : zeroDV pp 6 2 = [.int .i64 (0)] := by kernel_rfl

theorem ia3 : isAggT pp 3 = false := by kernel_rfl
theorem cn3 : pp.cellsOf 3 = 1 := by kernel_rfl
theorem bn3 : pp.bytesOf 3 = 8 := by kernel_rfl
theorem us3 : (pp.underlying 3).isSome = true := by kernel_rfl
theorem zi3 : (pp.info? 3).any (·.zero.isSome) = true := by kernel_rfl
theorem zd3_4 : zeroDV pp 4 3 = [.int .i64 (0)] := by kernel_rfl
theorem zo3_4 : zeroOk pp 3 [.int .i64 (0)] = true := by rw [← zd3_4]; kernel_rfl
theorem zd3_6 : zeroDV pp 6 3 = [.int .i64 (0)] := by kernel_rfl

theorem ia4 : isAggT pp 4 = false := by kernel_rfl
theorem cn4 : pp.cellsOf 4 = 1 := by kernel_rfl
theorem bn4 : pp.bytesOf 4 = 1 := by kernel_rfl
theorem us4 : (pp.underlying 4).isSome = true := by kernel_rfl
theorem zi4 : (pp.info? 4).any (·.zero.isSome) = true := by kernel_rfl
theorem zd4_4 : zeroDV pp 4 4 = [.bool false] := by kernel_rfl
theorem zo4_4 : zeroOk pp 4 [.bool false] = true := by rw [← zd4_4]; kernel_rfl
theorem zd4_6 : zeroDV pp 6 4 = [.bool false] := by kernel_rfl

theorem ia5 : isAggT pp 5 = false := by kernel_rfl
theorem cn5 : pp.cellsOf 5 = 1 := by kernel_rfl
theorem bn5 : pp.bytesOf 5 = 1 := by kernel_rfl
theorem us5 : (pp.underlying 5).isSome = true := by kernel_rfl
theorem zi5 : (pp.info? 5).any (·.zero.isSome) = true := by kernel_rfl
theorem zd5_4 : zeroDV pp 4 5 = [.int .u8 (0)] := by kernel_rfl
theorem zo5_4 : zeroOk pp 5 [.int .u8 (0)] = true := by rw [← zd5_4]; kernel_rfl
theorem zd5_6 : zeroDV pp 6 5 = [.int .u8 (0)] := by kernel_rfl

theorem ia6 : isAggT pp 6 = false := by kernel_rfl
theorem cn6 : pp.cellsOf 6 = 1 := by kernel_rfl
theorem bn6 : pp.bytesOf 6 = 1 := by kernel_rfl
theorem us6 : (pp.underlying 6).isSome = true := by kernel_rfl
theorem zi6 : (pp.info? 6).any (·.zero.isSome) = true := by kernel_rfl
theorem zd6_4 : zeroDV pp 4 6 = [.int .u8 (0)] := by kernel_rfl
theorem zo6_4 : zeroOk pp 6 [.int .u8 (0)] = true := by rw [← zd6_4]; kernel_rfl
theorem zd6_6 : zeroDV pp 6 6 = [.int .u8 (0)] := by kernel_rfl

theorem ia7 : isAggT pp 7 = true := by kernel_rfl
theorem cn7 : pp.cellsOf 7 = 4 := by kernel_rfl
theorem bn7 : pp.bytesOf 7 = 24 := by kernel_rfl
theorem us7 : (pp.underlying 7).isSome = true := by kernel_rfl
theorem zi7 : (pp.info? 7).any (·.zero.isSome) = true := by kernel_rfl
theorem zd7_4 : zeroDV pp 4 7 = [.int .i64 (0), .int .i64 (0), .bool false, .int .u8 (0)] := by kernel_rfl
theorem zo7_4 : zeroOk pp 7 [.int .i64 (0), .int .i64 (0), .bool false, .int .u8 (0)] = true := by rw [← zd7_4]; kernel_rfl
theorem zd7_6 : zeroDV pp 6 7 = [.int .i64 (0), .int .i64 (0), .bool false, .int .u8 (0)] := by kernel_rfl

theorem ia8 : isAggT pp 8 = true := by kernel_rfl
theorem cn8 : pp.cellsOf 8 = 4 := by kernel_rfl
theorem bn8 : pp.bytesOf 8 = 24 := by kernel_rfl
theorem us8 : (pp.underlying 8).isSome = true := by kernel_rfl
theorem zi8 : (pp.info? 8).any (·.zero.isSome) = true := by kernel_rfl
theorem zd8_4 : zeroDV pp 4 8 = [.int .i64 (0), .int .i64 (0), .bool false, .int .u8 (0)] := by kernel_rfl
theorem zo8_4 : zeroOk pp 8 [.int .i64 (0), .int .i64 (0), .bool false, .int .u8 (0)] = true := by rw [← zd8_4]; kernel_rfl
theorem zd8_6 : zeroDV pp 6 8 = [.int .i64 (0), .int .i64 (0), .bool false, .int .u8 (0)] := by kernel_rfl

theorem ia9 : isAggT pp 9 = false := by kernel_rfl
theorem cn9 : pp.cellsOf 9 = 1 := by kernel_rfl
theorem bn9 : pp.bytesOf 9 = 16 := by kernel_rfl
theorem us9 : (pp.underlying 9).isSome = true := by kernel_rfl
theorem zi9 : (pp.info? 9).any (·.zero.isSome) = true := by kernel_rfl
theorem zd9_4 : zeroDV pp 4 9 = [.str []] := by kernel_rfl
theorem zo9_4 : zeroOk pp 9 [.str []] = true := by rw [← zd9_4]; kernel_rfl
theorem zd9_6 : zeroDV pp 6 9 = [.str []] := by kernel_rfl

theorem ia10 : isAggT pp 10 = false := by kernel_rfl
theorem cn10 : pp.cellsOf 10 = 1 := by kernel_rfl
theorem bn10 : pp.bytesOf 10 = 16 := by kernel_rfl
theorem us10 : (pp.underlying 10).isSome = true := by kernel_rfl
theorem zi10 : (pp.info? 10).any (·.zero.isSome) = true := by kernel_rfl
theorem zd10_4 : zeroDV pp 4 10 = [.str []] := by kernel_rfl
theorem zo10_4 : zeroOk pp 10 [.str []] = true := by rw [← zd10_4]; kernel_rfl
theorem zd10_6 : zeroDV pp 6 10 = [.str []] := by kernel_rfl

theorem ia11 : isAggT pp 11 = false := by kernel_rfl
theorem cn11 : pp.cellsOf 11 = 1 := by kernel_rfl
theorem bn11 : pp.bytesOf 11 = 16 := by kernel_rfl
theorem us11 : (pp.underlying 11).isSome = true := by kernel_rfl
theorem zi11 : (pp.info? 11).any (·.zero.isSome) = true := by kernel_rfl
theorem zd11_4 : zeroDV pp 4 11 = [.str []] := by kernel_rfl
theorem zo11_4 : zeroOk pp 11 [.str []] = true := by rw [← zd11_4]; kernel_rfl
theorem zd11_6 : zeroDV pp 6 11 = [.str []] := by kernel_rfl

theorem ia12 : isAggT pp 12 = false := by kernel_rfl
theorem cn12 : pp.cellsOf 12 = 1 := by kernel_rfl
theorem bn12 : pp.bytesOf 12 = 8 := by kernel_rfl
theorem us12 : (pp.underlying 12).isSome = true := by kernel_rfl
theorem zi12 : (pp.info? 12).any (·.zero.isSome) = true := by kernel_rfl
theorem zd12_4 : zeroDV pp 4 12 = [.int .u64 (0)] := by kernel_rfl
theorem zo12_4 : zeroOk pp 12 [.int .u64 (0)] = true := by rw [← zd12_4]; kernel_rfl
theorem zd12_6 : zeroDV pp 6 12 = [.int .u64 (0)] := by kernel_rfl

theorem ia13 : isAggT pp 13 = true := by kernel_rfl
theorem cn13 : pp.cellsOf 13 = 2 := by kernel_rfl
theorem bn13 : pp.bytesOf 13 = 24 := by kernel_rfl
theorem us13 : (pp.underlying 13).isSome = true := by kernel_rfl
theorem zi13 : (pp.info? 13).any (·.zero.isSome) = true := by kernel_rfl
theorem zd13_4 : zeroDV pp 4 13 = [.str [], .int .u64 (0)] := by kernel_rfl
theorem zo13_4 : zeroOk pp 13 [.str [], .int .u64 (0)] = true := by rw [← zd13_4]; kernel_rfl
theorem zd13_6 : zeroDV pp 6 13 = [.str [], .int .u64 (0)] := by kernel_rfl

theorem ia14 : isAggT pp 14 = true := by kernel_rfl
theorem cn14 : pp.cellsOf 14 = 2 := by kernel_rfl
theorem bn14 : pp.bytesOf 14 = 24 := by kernel_rfl
theorem us14 : (pp.underlying 14).isSome = true := by kernel_rfl
theorem zi14 : (pp.info? 14).any (·.zero.isSome) = true := by kernel_rfl
theorem zd14_4 : zeroDV pp 4 14 = [.str [], .int .u64 (0)] := by kernel_rfl
theorem zo14_4 : zeroOk pp 14 [.str [], .int .u64 (0)] = true := by rw [← zd14_4]; kernel_rfl
theorem zd14_6 : zeroDV pp 6 14 = [.str [], .int .u64 (0)] := by kernel_rfl

theorem ia15 : isAggT pp 15 = false := by kernel_rfl
theorem cn15 : pp.cellsOf 15 = 1 := by kernel_rfl
theorem bn15 : pp.bytesOf 15 = 8 := by kernel_rfl
theorem us15 : (pp.underlying 15).isSome = true := by kernel_rfl
theorem zi15 : (pp.info? 15).any (·.zero.isSome) = true := by kernel_rfl
theorem zd15_4 : zeroDV pp 4 15 = [.nilp] := by kernel_rfl
theorem zo15_4 : zeroOk pp 15 [.nilp] = true := by rw [← zd15_4]; kernel_rfl
theorem zd15_6 : zeroDV pp 6 15 = [.nilp] := by kernel_rfl

theorem ia16 : isAggT pp 16 = false := by kernel_rfl
theorem cn16 : pp.cellsOf 16 = 1 := by kernel_rfl
theorem bn16 : pp.bytesOf 16 = 8 := by kernel_rfl
theorem us16 : (pp.underlying 16).isSome = true := by kernel_rfl
theorem zi16 : (pp.info? 16).any (·.zero.isSome) = true := by kernel_rfl
theorem zd16_4 : zeroDV pp 4 16 = [.nilp] := by kernel_rfl
theorem zo16_4 : zeroOk pp 16 [.nilp] = true := by rw [← zd16_4]; kernel_rfl
theorem zd16_6 : zeroDV pp 6 16 = [.nilp] := by kernel_rfl

theorem ia17 : isAggT pp 17 = false := by kernel_rfl
theorem cn17 : pp.cellsOf 17 = 1 := by kernel_rfl
theorem bn17 : pp.bytesOf 17 = 8 := by kernel_rfl
theorem us17 : (pp.underlying 17).isSome = true := by kernel_rfl
theorem zi17 : (pp.info? 17).any (·.zero.isSome) = true := by kernel_rfl
theorem zd17_4 : zeroDV pp 4 17 = [.nilp] := by kernel_rfl
theorem zo17_4 : zeroOk pp 17 [.nilp] = true := by rw [← zd17_4]; kernel_rfl
theorem zd17_6 : zeroDV pp 6 17 = [.nilp] := by kernel_rfl

theorem ia18 : isAggT pp 18 = true := by kernel_rfl
theorem cn18 : pp.cellsOf 18 = 1 := by kernel_rfl
theorem bn18 : pp.bytesOf 18 = 8 := by kernel_rfl
theorem us18 : (pp.underlying 18).isSome = true := by kernel_rfl
theorem zi18 : (pp.info? 18).any (·.zero.isSome) = true := by kernel_rfl
theorem zd18_4 : zeroDV pp 4 18 = [.nilp] := by kernel_rfl
theorem zo18_4 : zeroOk pp 18 [.nilp] = true := by rw [← zd18_4]; kernel_rfl
theorem zd18_6 : zeroDV pp 6 18 = [.nilp] := by kernel_rfl

theorem ia19 : isAggT pp 19 = true := by kernel_rfl
theorem cn19 : pp.cellsOf 19 = 1 := by kernel_rfl
theorem bn19 : pp.bytesOf 19 = 8 := by kernel_rfl
theorem us19 : (pp.underlying 19).isSome = true := by kernel_rfl
theorem zi19 : (pp.info? 19).any (·.zero.isSome) = true := by kernel_rfl
theorem zd19_4 : zeroDV pp 4 19 = [.nilp] := by kernel_rfl
theorem zo19_4 : zeroOk pp 19 [.nilp] = true := by rw [← zd19_4]; kernel_rfl
theorem zd19_6 : zeroDV pp 6 19 = [.nilp] := by kernel_rfl

theorem ia21 : isAggT pp 21 = false := by kernel_rfl
theorem cn21 : pp.cellsOf 21 = 1 := by kernel_rfl
theorem bn21 : pp.bytesOf 21 = 4 := by kernel_rfl
theorem us21 : (pp.underlying 21).isSome = true := by kernel_rfl
theorem zi21 : (pp.info? 21).any (·.zero.isSome) = true := by kernel_rfl
theorem zd21_4 : zeroDV pp 4 21 = [.int .i32 (0)] := by kernel_rfl
theorem zo21_4 : zeroOk pp 21 [.int .i32 (0)] = true := by rw [← zd21_4]; kernel_rfl
theorem zd21_6 : zeroDV pp 6 21 = [.int .i32 (0)] := by kernel_rfl

theorem ia22 : isAggT pp 22 = false := by kernel_rfl
theorem cn22 : pp.cellsOf 22 = 1 := by kernel_rfl
theorem bn22 : pp.bytesOf 22 = 24 := by kernel_rfl
theorem us22 : (pp.underlying 22).isSome = true := by kernel_rfl
theorem zi22 : (pp.info? 22).any (·.zero.isSome) = true := by kernel_rfl
theorem zd22_4 : zeroDV pp 4 22 = [.sl true 6 []] := by kernel_rfl
theorem zo22_4 : zeroOk pp 22 [.sl true 6 []] = true := by rw [← zd22_4]; kernel_rfl
theorem zd22_6 : zeroDV pp 6 22 = [.sl true 6 []] := by kernel_rfl

theorem ia25 : isAggT pp 25 = false := by kernel_rfl
theorem cn25 : pp.cellsOf 25 = 1 := by kernel_rfl
theorem bn25 : pp.bytesOf 25 = 8 := by kernel_rfl
theorem us25 : (pp.underlying 25).isSome = true := by kernel_rfl
theorem zi25 : (pp.info? 25).any (·.zero.isSome) = true := by kernel_rfl
theorem zd25_4 : zeroDV pp 4 25 = [.nilp] := by kernel_rfl
theorem zo25_4 : zeroOk pp 25 [.nilp] = true := by rw [← zd25_4]; kernel_rfl
theorem zd25_6 : zeroDV pp 6 25 = [.nilp] := by kernel_rfl

theorem ia27 : isAggT pp 27 = false := by kernel_rfl
theorem cn27 : pp.cellsOf 27 = 1 := by kernel_rfl
theorem bn27 : pp.bytesOf 27 = 8 := by kernel_rfl
theorem us27 : (pp.underlying 27).isSome = true := by kernel_rfl
theorem zi27 : (pp.info? 27).any (·.zero.isSome) = true := by kernel_rfl
theorem zd27_4 : zeroDV pp 4 27 = [.nilp] := by kernel_rfl
theorem zo27_4 : zeroOk pp 27 [.nilp] = true := by rw [← zd27_4]; kernel_rfl
theorem zd27_6 : zeroDV pp 6 27 = [.nilp] := by kernel_rfl

theorem ia29 : isAggT pp 29 = false := by kernel_rfl
theorem cn29 : pp.cellsOf 29 = 1 := by kernel_rfl
theorem bn29 : pp.bytesOf 29 = 8 := by kernel_rfl
theorem us29 : (pp.underlying 29).isSome = true := by kernel_rfl
theorem zi29 : (pp.info? 29).any (·.zero.isSome) = true := by kernel_rfl
theorem zd29_4 : zeroDV pp 4 29 = [.int .i64 (0)] := by kernel_rfl
theorem zo29_4 : zeroOk pp 29 [.int .i64 (0)] = true := by rw [← zd29_4]; kernel_rfl
theorem zd29_6 : zeroDV pp 6 29 = [.int .i64 (0)] := by kernel_rfl

theorem ia30 : isAggT pp 30 = true := by kernel_rfl
theorem cn30 : pp.cellsOf 30 = 6 := by kernel_rfl
theorem bn30 : pp.bytesOf 30 = 72 := by kernel_rfl
theorem us30 : (pp.underlying 30).isSome = true := by kernel_rfl
theorem zi30 : (pp.info? 30).any (·.zero.isSome) = true := by kernel_rfl
theorem zd30_4 : zeroDV pp 4 30 = [.int .i64 (0), .int .i64 (0), .int .i64 (0), .str [], .str [], .str []] := by kernel_rfl
theorem zo30_4 : zeroOk pp 30 [.int .i64 (0), .int .i64 (0), .int .i64 (0), .str [], .str [], .str []] = true := by rw [← zd30_4]; kernel_rfl
theorem zd30_6 : zeroDV pp 6 30 = [.int .i64 (0), .int .i64 (0), .int .i64 (0), .str [], .str [], .str []] := by kernel_rfl

theorem ia31 : isAggT pp 31 = true := by kernel_rfl
theorem cn31 : pp.cellsOf 31 = 6 := by kernel_rfl
theorem bn31 : pp.bytesOf 31 = 72 := by kernel_rfl
theorem us31 : (pp.underlying 31).isSome = true := by kernel_rfl
theorem zi31 : (pp.info? 31).any (·.zero.isSome) = true := by kernel_rfl
theorem zd31_4 : zeroDV pp 4 31 = [.int .i64 (0), .int .i64 (0), .int .i64 (0), .str [], .str [], .str []] := by kernel_rfl
theorem zo31_4 : zeroOk pp 31 [.int .i64 (0), .int .i64 (0), .int .i64 (0), .str [], .str [], .str []] = true := by rw [← zd31_4]; kernel_rfl
theorem zd31_6 : zeroDV pp 6 31 = [.int .i64 (0), .int .i64 (0), .int .i64 (0), .str [], .str [], .str []] := by kernel_rfl

theorem ia45 : isAggT pp 45 = false := by kernel_rfl
theorem cn45 : pp.cellsOf 45 = 1 := by kernel_rfl
theorem bn45 : pp.bytesOf 45 = 24 := by kernel_rfl
theorem us45 : (pp.underlying 45).isSome = true := by kernel_rfl
theorem zi45 : (pp.info? 45).any (·.zero.isSome) = true := by kernel_rfl
theorem zd45_4 : zeroDV pp 4 45 = [.sl true 1 []] := by kernel_rfl
theorem zo45_4 : zeroOk pp 45 [.sl true 1 []] = true := by rw [← zd45_4]; kernel_rfl
theorem zd45_6 : zeroDV pp 6 45 = [.sl true 1 []] := by kernel_rfl

theorem ia48 : isAggT pp 48 = false := by kernel_rfl
theorem cn48 : pp.cellsOf 48 = 1 := by kernel_rfl
theorem bn48 : pp.bytesOf 48 = 24 := by kernel_rfl
theorem us48 : (pp.underlying 48).isSome = true := by kernel_rfl
theorem zi48 : (pp.info? 48).any (·.zero.isSome) = true := by kernel_rfl
theorem zd48_4 : zeroDV pp 4 48 = [.sl true 1 []] := by kernel_rfl
theorem zo48_4 : zeroOk pp 48 [.sl true 1 []] = true := by rw [← zd48_4]; kernel_rfl
theorem zd48_6 : zeroDV pp 6 48 = [.sl true 1 []] := by kernel_rfl

theorem ia53 : isAggT pp 53 = false := by kernel_rfl
theorem cn53 : pp.cellsOf 53 = 1 := by kernel_rfl
theorem bn53 : pp.bytesOf 53 = 8 := by kernel_rfl
theorem us53 : (pp.underlying 53).isSome = true := by kernel_rfl
theorem zi53 : (pp.info? 53).any (·.zero.isSome) = true := by kernel_rfl
theorem zd53_4 : zeroDV pp 4 53 = [.nilmap] := by kernel_rfl
theorem zo53_4 : zeroOk pp 53 [.nilmap] = true := by rw [← zd53_4]; kernel_rfl
theorem zd53_6 : zeroDV pp 6 53 = [.nilmap] := by kernel_rfl

theorem ia54 : isAggT pp 54 = false := by kernel_rfl
theorem cn54 : pp.cellsOf 54 = 1 := by kernel_rfl
theorem bn54 : pp.bytesOf 54 = 8 := by kernel_rfl
theorem us54 : (pp.underlying 54).isSome = true := by kernel_rfl
theorem zi54 : (pp.info? 54).any (·.zero.isSome) = true := by kernel_rfl
theorem zd54_4 : zeroDV pp 4 54 = [.nilmap] := by kernel_rfl
theorem zo54_4 : zeroOk pp 54 [.nilmap] = true := by rw [← zd54_4]; kernel_rfl
theorem zd54_6 : zeroDV pp 6 54 = [.nilmap] := by kernel_rfl

theorem ia55 : isAggT pp 55 = false := by kernel_rfl
theorem cn55 : pp.cellsOf 55 = 1 := by kernel_rfl
theorem bn55 : pp.bytesOf 55 = 24 := by kernel_rfl
theorem us55 : (pp.underlying 55).isSome = true := by kernel_rfl
theorem zi55 : (pp.info? 55).any (·.zero.isSome) = true := by kernel_rfl
theorem zd55_4 : zeroDV pp 4 55 = [.sl true 3 []] := by kernel_rfl
theorem zo55_4 : zeroOk pp 55 [.sl true 3 []] = true := by rw [← zd55_4]; kernel_rfl
theorem zd55_6 : zeroDV pp 6 55 = [.sl true 3 []] := by kernel_rfl

theorem ia56 : isAggT pp 56 = true := by kernel_rfl
theorem cn56 : pp.cellsOf 56 = 4 := by kernel_rfl
theorem bn56 : pp.bytesOf 56 = 48 := by kernel_rfl
theorem us56 : (pp.underlying 56).isSome = true := by kernel_rfl
theorem zi56 : (pp.info? 56).any (·.zero.isSome) = true := by kernel_rfl
theorem zd56_4 : zeroDV pp 4 56 = [.nilmap, .nilmap, .sl true 3 [], .int .i64 (0)] := by kernel_rfl
theorem zo56_4 : zeroOk pp 56 [.nilmap, .nilmap, .sl true 3 [], .int .i64 (0)] = true := by rw [← zd56_4]; kernel_rfl
theorem zd56_6 : zeroDV pp 6 56 = [.nilmap, .nilmap, .sl true 3 [], .int .i64 (0)] := by kernel_rfl

theorem ia57 : isAggT pp 57 = true := by kernel_rfl
theorem cn57 : pp.cellsOf 57 = 4 := by kernel_rfl
theorem bn57 : pp.bytesOf 57 = 48 := by kernel_rfl
theorem us57 : (pp.underlying 57).isSome = true := by kernel_rfl
theorem zi57 : (pp.info? 57).any (·.zero.isSome) = true := by kernel_rfl
theorem zd57_4 : zeroDV pp 4 57 = [.nilmap, .nilmap, .sl true 3 [], .int .i64 (0)] := by kernel_rfl
theorem zo57_4 : zeroOk pp 57 [.nilmap, .nilmap, .sl true 3 [], .int .i64 (0)] = true := by rw [← zd57_4]; kernel_rfl
theorem zd57_6 : zeroDV pp 6 57 = [.nilmap, .nilmap, .sl true 3 [], .int .i64 (0)] := by kernel_rfl

theorem ia58 : isAggT pp 58 = false := by kernel_rfl
theorem cn58 : pp.cellsOf 58 = 1 := by kernel_rfl
theorem bn58 : pp.bytesOf 58 = 24 := by kernel_rfl
theorem us58 : (pp.underlying 58).isSome = true := by kernel_rfl
theorem zi58 : (pp.info? 58).any (·.zero.isSome) = true := by kernel_rfl
theorem zd58_4 : zeroDV pp 4 58 = [.sl true 2 []] := by kernel_rfl
theorem zo58_4 : zeroOk pp 58 [.sl true 2 []] = true := by rw [← zd58_4]; kernel_rfl
theorem zd58_6 : zeroDV pp 6 58 = [.sl true 2 []] := by kernel_rfl

theorem ia59 : isAggT pp 59 = false := by kernel_rfl
theorem cn59 : pp.cellsOf 59 = 1 := by kernel_rfl
theorem bn59 : pp.bytesOf 59 = 24 := by kernel_rfl
theorem us59 : (pp.underlying 59).isSome = true := by kernel_rfl
theorem zi59 : (pp.info? 59).any (·.zero.isSome) = true := by kernel_rfl
theorem zd59_4 : zeroDV pp 4 59 = [.sl true 3 []] := by kernel_rfl
theorem zo59_4 : zeroOk pp 59 [.sl true 3 []] = true := by rw [← zd59_4]; kernel_rfl
theorem zd59_6 : zeroDV pp 6 59 = [.sl true 3 []] := by kernel_rfl

theorem ia60 : isAggT pp 60 = true := by kernel_rfl
theorem cn60 : pp.cellsOf 60 = 4 := by kernel_rfl
theorem bn60 : pp.bytesOf 60 = 80 := by kernel_rfl
theorem us60 : (pp.underlying 60).isSome = true := by kernel_rfl
theorem zi60 : (pp.info? 60).any (·.zero.isSome) = true := by kernel_rfl
theorem zd60_4 : zeroDV pp 4 60 = [.sl true 2 [], .sl true 2 [], .sl true 3 [], .int .i64 (0)] := by kernel_rfl
theorem zo60_4 : zeroOk pp 60 [.sl true 2 [], .sl true 2 [], .sl true 3 [], .int .i64 (0)] = true := by rw [← zd60_4]; kernel_rfl
theorem zd60_6 : zeroDV pp 6 60 = [.sl true 2 [], .sl true 2 [], .sl true 3 [], .int .i64 (0)] := by kernel_rfl

theorem ia61 : isAggT pp 61 = true := by kernel_rfl
theorem cn61 : pp.cellsOf 61 = 4 := by kernel_rfl
theorem bn61 : pp.bytesOf 61 = 80 := by kernel_rfl
theorem us61 : (pp.underlying 61).isSome = true := by kernel_rfl
theorem zi61 : (pp.info? 61).any (·.zero.isSome) = true := by kernel_rfl
theorem zd61_4 : zeroDV pp 4 61 = [.sl true 2 [], .sl true 2 [], .sl true 3 [], .int .i64 (0)] := by kernel_rfl
theorem zo61_4 : zeroOk pp 61 [.sl true 2 [], .sl true 2 [], .sl true 3 [], .int .i64 (0)] = true := by rw [← zd61_4]; kernel_rfl
theorem zd61_6 : zeroDV pp 6 61 = [.sl true 2 [], .sl true 2 [], .sl true 3 [], .int .i64 (0)] := by kernel_rfl

theorem ia64 : isAggT pp 64 = true := by kernel_rfl
theorem cn64 : pp.cellsOf 64 = 3 := by kernel_rfl
theorem bn64 : pp.bytesOf 64 = 40 := by kernel_rfl
theorem us64 : (pp.underlying 64).isSome = true := by kernel_rfl
theorem zi64 : (pp.info? 64).any (·.zero.isSome) = true := by kernel_rfl
theorem zd64_4 : zeroDV pp 4 64 = [.int .i64 (0), .str [], .str []] := by kernel_rfl
theorem zo64_4 : zeroOk pp 64 [.int .i64 (0), .str [], .str []] = true := by rw [← zd64_4]; kernel_rfl
theorem zd64_6 : zeroDV pp 6 64 = [.int .i64 (0), .str [], .str []] := by kernel_rfl

theorem ia65 : isAggT pp 65 = true := by kernel_rfl
theorem cn65 : pp.cellsOf 65 = 3 := by kernel_rfl
theorem bn65 : pp.bytesOf 65 = 40 := by kernel_rfl
theorem us65 : (pp.underlying 65).isSome = true := by kernel_rfl
theorem zi65 : (pp.info? 65).any (·.zero.isSome) = true := by kernel_rfl
theorem zd65_4 : zeroDV pp 4 65 = [.int .i64 (0), .str [], .str []] := by kernel_rfl
theorem zo65_4 : zeroOk pp 65 [.int .i64 (0), .str [], .str []] = true := by rw [← zd65_4]; kernel_rfl
theorem zd65_6 : zeroDV pp 6 65 = [.int .i64 (0), .str [], .str []] := by kernel_rfl

theorem ia68 : isAggT pp 68 = true := by kernel_rfl
theorem cn68 : pp.cellsOf 68 = 3 := by kernel_rfl
theorem bn68 : pp.bytesOf 68 = 40 := by kernel_rfl
theorem us68 : (pp.underlying 68).isSome = true := by kernel_rfl
theorem zi68 : (pp.info? 68).any (·.zero.isSome) = true := by kernel_rfl
theorem zd68_4 : zeroDV pp 4 68 = [.int .i64 (0), .str [], .str []] := by kernel_rfl
theorem zo68_4 : zeroOk pp 68 [.int .i64 (0), .str [], .str []] = true := by rw [← zd68_4]; kernel_rfl
theorem zd68_6 : zeroDV pp 6 68 = [.int .i64 (0), .str [], .str []] := by kernel_rfl

theorem ia69 : isAggT pp 69 = true := by kernel_rfl
theorem cn69 : pp.cellsOf 69 = 3 := by kernel_rfl
theorem bn69 : pp.bytesOf 69 = 40 := by kernel_rfl
theorem us69 : (pp.underlying 69).isSome = true := by kernel_rfl
theorem zi69 : (pp.info? 69).any (·.zero.isSome) = true := by kernel_rfl
theorem zd69_4 : zeroDV pp 4 69 = [.int .i64 (0), .str [], .str []] := by kernel_rfl
theorem zo69_4 : zeroOk pp 69 [.int .i64 (0), .str [], .str []] = true := by rw [← zd69_4]; kernel_rfl
theorem zd69_6 : zeroDV pp 6 69 = [.int .i64 (0), .str [], .str []] := by kernel_rfl

theorem ia74 : isAggT pp 74 = true := by kernel_rfl
theorem cn74 : pp.cellsOf 74 = 2 := by kernel_rfl
theorem bn74 : pp.bytesOf 74 = 32 := by kernel_rfl
theorem us74 : (pp.underlying 74).isSome = true := by kernel_rfl
theorem zi74 : (pp.info? 74).any (·.zero.isSome) = true := by kernel_rfl
theorem zd74_4 : zeroDV pp 4 74 = [.str [], .str []] := by kernel_rfl
theorem zo74_4 : zeroOk pp 74 [.str [], .str []] = true := by rw [← zd74_4]; kernel_rfl
theorem zd74_6 : zeroDV pp 6 74 = [.str [], .str []] := by kernel_rfl

theorem ia75 : isAggT pp 75 = true := by kernel_rfl
theorem cn75 : pp.cellsOf 75 = 2 := by kernel_rfl
theorem bn75 : pp.bytesOf 75 = 32 := by kernel_rfl
theorem us75 : (pp.underlying 75).isSome = true := by kernel_rfl
theorem zi75 : (pp.info? 75).any (·.zero.isSome) = true := by kernel_rfl
theorem zd75_4 : zeroDV pp 4 75 = [.str [], .str []] := by kernel_rfl
theorem zo75_4 : zeroOk pp 75 [.str [], .str []] = true := by rw [← zd75_4]; kernel_rfl
theorem zd75_6 : zeroDV pp 6 75 = [.str [], .str []] := by kernel_rfl

end Go.Ab.Sh
