/- A part of the proofs that a law function returns true at every input; it has no condition of its own. -/
import Derived.Test.YtefaplodmbdhlaaProg
import Derived.KernelRfl
import Derived.Test.YtefaplodmbdhlaaAbK3
set_option linter.unusedSimpArgs false
set_option linter.unusedVariables false
/- OrT: Facts on the types of this seat's program. Printed by wip/tools/facts.py. -/
namespace Go.Ab.Or
open Go Go.Conc Go.RowKit Go.Ab
noncomputable abbrev pp : Program := Go.Proofs.Try.prog
theorem mixed : pp.follows .mixedOrders = true := by kernel_rfl
theorem ia3 : isAggT pp 3 = false := by kernel_rfl
theorem cn3 : pp.cellsOf 3 = 1 := by kernel_rfl
theorem us3 : (pp.underlying 3).isSome = true := by kernel_rfl
theorem ft3 : funT pp 3 = false := by kernel_rfl
theorem bn3 : pp.bytesOf 3 = 8 := by kernel_rfl
theorem zi3 : (pp.info? 3).any (·.zero.isSome) = true := by kernel_rfl
theorem zd3_4 : zeroDV pp 4 3 = [.int .i64 0] := by kernel_rfl
theorem zo3 : zeroOk pp 3 [.int .i64 0] = true := by kernel_rfl
theorem zd3_6 : zeroDV pp 6 3 = [.int .i64 0] := by kernel_rfl
theorem oc3 : ofCells pp 3 [.int .i64 0] = (.int .i64 0) := by simp [ofCells, ia3]
theorem la3 {c : DV} {r : List DV} {K : DV → Prop} : loadAs pp 3 (c :: r) K = K c.ro := la_cell ia3 us3
theorem ia4 : isAggT pp 4 = false := by kernel_rfl
theorem cn4 : pp.cellsOf 4 = 1 := by kernel_rfl
theorem us4 : (pp.underlying 4).isSome = true := by kernel_rfl
theorem ft4 : funT pp 4 = false := by kernel_rfl
theorem bn4 : pp.bytesOf 4 = 1 := by kernel_rfl
theorem zi4 : (pp.info? 4).any (·.zero.isSome) = true := by kernel_rfl
theorem zd4_4 : zeroDV pp 4 4 = [.bool false] := by kernel_rfl
theorem zo4 : zeroOk pp 4 [.bool false] = true := by kernel_rfl
theorem zd4_6 : zeroDV pp 6 4 = [.bool false] := by kernel_rfl
theorem oc4 : ofCells pp 4 [.bool false] = (.bool false) := by simp [ofCells, ia4]
theorem la4 {c : DV} {r : List DV} {K : DV → Prop} : loadAs pp 4 (c :: r) K = K c.ro := la_cell ia4 us4
theorem ia5 : isAggT pp 5 = false := by kernel_rfl
theorem cn5 : pp.cellsOf 5 = 1 := by kernel_rfl
theorem us5 : (pp.underlying 5).isSome = true := by kernel_rfl
theorem ft5 : funT pp 5 = false := by kernel_rfl
theorem bn5 : pp.bytesOf 5 = 1 := by kernel_rfl
theorem zi5 : (pp.info? 5).any (·.zero.isSome) = true := by kernel_rfl
theorem zd5_4 : zeroDV pp 4 5 = [.int .u8 0] := by kernel_rfl
theorem zo5 : zeroOk pp 5 [.int .u8 0] = true := by kernel_rfl
theorem zd5_6 : zeroDV pp 6 5 = [.int .u8 0] := by kernel_rfl
theorem oc5 : ofCells pp 5 [.int .u8 0] = (.int .u8 0) := by simp [ofCells, ia5]
theorem la5 {c : DV} {r : List DV} {K : DV → Prop} : loadAs pp 5 (c :: r) K = K c.ro := la_cell ia5 us5
theorem ia9 : isAggT pp 9 = false := by kernel_rfl
theorem cn9 : pp.cellsOf 9 = 1 := by kernel_rfl
theorem us9 : (pp.underlying 9).isSome = true := by kernel_rfl
theorem ft9 : funT pp 9 = false := by kernel_rfl
theorem bn9 : pp.bytesOf 9 = 16 := by kernel_rfl
theorem zi9 : (pp.info? 9).any (·.zero.isSome) = true := by kernel_rfl
theorem zd9_4 : zeroDV pp 4 9 = [.str []] := by kernel_rfl
theorem zo9 : zeroOk pp 9 [.str []] = true := by kernel_rfl
theorem zd9_6 : zeroDV pp 6 9 = [.str []] := by kernel_rfl
theorem oc9 : ofCells pp 9 [.str []] = (.str []) := by simp [ofCells, ia9]
theorem la9 {c : DV} {r : List DV} {K : DV → Prop} : loadAs pp 9 (c :: r) K = K c.ro := la_cell ia9 us9
theorem ia22 : isAggT pp 22 = false := by kernel_rfl
theorem cn22 : pp.cellsOf 22 = 1 := by kernel_rfl
theorem us22 : (pp.underlying 22).isSome = true := by kernel_rfl
theorem ft22 : funT pp 22 = false := by kernel_rfl
theorem bn22 : pp.bytesOf 22 = 24 := by kernel_rfl
theorem zi22 : (pp.info? 22).any (·.zero.isSome) = true := by kernel_rfl
theorem zd22_4 : zeroDV pp 4 22 = [.sl true 1 []] := by kernel_rfl
theorem zo22 : zeroOk pp 22 [.sl true 1 []] = true := by kernel_rfl
theorem zd22_6 : zeroDV pp 6 22 = [.sl true 1 []] := by kernel_rfl
theorem oc22 : ofCells pp 22 [.sl true 1 []] = (.sl true 1 []) := by simp [ofCells, ia22]
theorem la22 {c : DV} {r : List DV} {K : DV → Prop} : loadAs pp 22 (c :: r) K = K c.ro := la_cell ia22 us22
theorem ia24 : isAggT pp 24 = false := by kernel_rfl
theorem cn24 : pp.cellsOf 24 = 1 := by kernel_rfl
theorem us24 : (pp.underlying 24).isSome = true := by kernel_rfl
theorem ft24 : funT pp 24 = false := by kernel_rfl
theorem bn24 : pp.bytesOf 24 = 24 := by kernel_rfl
theorem zi24 : (pp.info? 24).any (·.zero.isSome) = true := by kernel_rfl
theorem zd24_4 : zeroDV pp 4 24 = [.sl true 5 []] := by kernel_rfl
theorem zo24 : zeroOk pp 24 [.sl true 5 []] = true := by kernel_rfl
theorem zd24_6 : zeroDV pp 6 24 = [.sl true 5 []] := by kernel_rfl
theorem oc24 : ofCells pp 24 [.sl true 5 []] = (.sl true 5 []) := by simp [ofCells, ia24]
theorem la24 {c : DV} {r : List DV} {K : DV → Prop} : loadAs pp 24 (c :: r) K = K c.ro := la_cell ia24 us24
theorem ia25 : isAggT pp 25 = true := by kernel_rfl
theorem cn25 : pp.cellsOf 25 = 3 := by kernel_rfl
theorem us25 : (pp.underlying 25).isSome = true := by kernel_rfl
theorem ft25 : funT pp 25 = false := by kernel_rfl
theorem bn25 : pp.bytesOf 25 = 40 := by kernel_rfl
theorem zi25 : (pp.info? 25).any (·.zero.isSome) = true := by kernel_rfl
theorem zd25_4 : zeroDV pp 4 25 = [.str [], .bool false, .str []] := by kernel_rfl
theorem zo25 : zeroOk pp 25 [.str [], .bool false, .str []] = true := by kernel_rfl
theorem zd25_6 : zeroDV pp 6 25 = [.str [], .bool false, .str []] := by kernel_rfl
theorem oc25 : ofCells pp 25 [.str [], .bool false, .str []] = (.agg [.str [], .bool false, .str []]) := by simp [ofCells, ia25]
theorem la25 {cs : List DV} {K : DV → Prop} : loadAs pp 25 cs K = (3 ≤ cs.length ∧ K (.agg ((cs.take 3).map DV.ro1))) := by rw [la_agg ia25, cn25]
theorem ia26 : isAggT pp 26 = true := by kernel_rfl
theorem cn26 : pp.cellsOf 26 = 3 := by kernel_rfl
theorem us26 : (pp.underlying 26).isSome = true := by kernel_rfl
theorem ft26 : funT pp 26 = false := by kernel_rfl
theorem bn26 : pp.bytesOf 26 = 40 := by kernel_rfl
theorem zi26 : (pp.info? 26).any (·.zero.isSome) = true := by kernel_rfl
theorem zd26_4 : zeroDV pp 4 26 = [.str [], .bool false, .str []] := by kernel_rfl
theorem zo26 : zeroOk pp 26 [.str [], .bool false, .str []] = true := by kernel_rfl
theorem zd26_6 : zeroDV pp 6 26 = [.str [], .bool false, .str []] := by kernel_rfl
theorem oc26 : ofCells pp 26 [.str [], .bool false, .str []] = (.agg [.str [], .bool false, .str []]) := by simp [ofCells, ia26]
theorem la26 {cs : List DV} {K : DV → Prop} : loadAs pp 26 cs K = (3 ≤ cs.length ∧ K (.agg ((cs.take 3).map DV.ro1))) := by rw [la_agg ia26, cn26]
theorem ia27 : isAggT pp 27 = false := by kernel_rfl
theorem cn27 : pp.cellsOf 27 = 1 := by kernel_rfl
theorem us27 : (pp.underlying 27).isSome = true := by kernel_rfl
theorem ft27 : funT pp 27 = false := by kernel_rfl
theorem bn27 : pp.bytesOf 27 = 24 := by kernel_rfl
theorem zi27 : (pp.info? 27).any (·.zero.isSome) = true := by kernel_rfl
theorem zd27_4 : zeroDV pp 4 27 = [.sl true 3 []] := by kernel_rfl
theorem zo27 : zeroOk pp 27 [.sl true 3 []] = true := by kernel_rfl
theorem zd27_6 : zeroDV pp 6 27 = [.sl true 3 []] := by kernel_rfl
theorem oc27 : ofCells pp 27 [.sl true 3 []] = (.sl true 3 []) := by simp [ofCells, ia27]
theorem la27 {c : DV} {r : List DV} {K : DV → Prop} : loadAs pp 27 (c :: r) K = K c.ro := la_cell ia27 us27
theorem ia28 : isAggT pp 28 = false := by kernel_rfl
theorem cn28 : pp.cellsOf 28 = 1 := by kernel_rfl
theorem us28 : (pp.underlying 28).isSome = true := by kernel_rfl
theorem ft28 : funT pp 28 = false := by kernel_rfl
theorem bn28 : pp.bytesOf 28 = 24 := by kernel_rfl
theorem zi28 : (pp.info? 28).any (·.zero.isSome) = true := by kernel_rfl
theorem zd28_4 : zeroDV pp 4 28 = [.sl true 5 []] := by kernel_rfl
theorem zo28 : zeroOk pp 28 [.sl true 5 []] = true := by kernel_rfl
theorem zd28_6 : zeroDV pp 6 28 = [.sl true 5 []] := by kernel_rfl
theorem oc28 : ofCells pp 28 [.sl true 5 []] = (.sl true 5 []) := by simp [ofCells, ia28]
theorem la28 {c : DV} {r : List DV} {K : DV → Prop} : loadAs pp 28 (c :: r) K = K c.ro := la_cell ia28 us28
theorem ia29 : isAggT pp 29 = true := by kernel_rfl
theorem cn29 : pp.cellsOf 29 = 5 := by kernel_rfl
theorem us29 : (pp.underlying 29).isSome = true := by kernel_rfl
theorem ft29 : funT pp 29 = false := by kernel_rfl
theorem bn29 : pp.bytesOf 29 = 72 := by kernel_rfl
theorem zi29 : (pp.info? 29).any (·.zero.isSome) = true := by kernel_rfl
theorem zd29_4 : zeroDV pp 4 29 = [.int .i64 0, .int .i64 0, .int .i64 0, .sl true 5 [], .sl true 3 []] := by kernel_rfl
theorem zo29 : zeroOk pp 29 [.int .i64 0, .int .i64 0, .int .i64 0, .sl true 5 [], .sl true 3 []] = true := by kernel_rfl
theorem zd29_6 : zeroDV pp 6 29 = [.int .i64 0, .int .i64 0, .int .i64 0, .sl true 5 [], .sl true 3 []] := by kernel_rfl
theorem oc29 : ofCells pp 29 [.int .i64 0, .int .i64 0, .int .i64 0, .sl true 5 [], .sl true 3 []] = (.agg [.int .i64 0, .int .i64 0, .int .i64 0, .sl true 5 [], .sl true 3 []]) := by simp [ofCells, ia29]
theorem la29 {cs : List DV} {K : DV → Prop} : loadAs pp 29 cs K = (5 ≤ cs.length ∧ K (.agg ((cs.take 5).map DV.ro1))) := by rw [la_agg ia29, cn29]
theorem ia30 : isAggT pp 30 = true := by kernel_rfl
theorem cn30 : pp.cellsOf 30 = 5 := by kernel_rfl
theorem us30 : (pp.underlying 30).isSome = true := by kernel_rfl
theorem ft30 : funT pp 30 = false := by kernel_rfl
theorem bn30 : pp.bytesOf 30 = 72 := by kernel_rfl
theorem zi30 : (pp.info? 30).any (·.zero.isSome) = true := by kernel_rfl
theorem zd30_4 : zeroDV pp 4 30 = [.int .i64 0, .int .i64 0, .int .i64 0, .sl true 5 [], .sl true 3 []] := by kernel_rfl
theorem zo30 : zeroOk pp 30 [.int .i64 0, .int .i64 0, .int .i64 0, .sl true 5 [], .sl true 3 []] = true := by kernel_rfl
theorem zd30_6 : zeroDV pp 6 30 = [.int .i64 0, .int .i64 0, .int .i64 0, .sl true 5 [], .sl true 3 []] := by kernel_rfl
theorem oc30 : ofCells pp 30 [.int .i64 0, .int .i64 0, .int .i64 0, .sl true 5 [], .sl true 3 []] = (.agg [.int .i64 0, .int .i64 0, .int .i64 0, .sl true 5 [], .sl true 3 []]) := by simp [ofCells, ia30]
theorem la30 {cs : List DV} {K : DV → Prop} : loadAs pp 30 cs K = (5 ≤ cs.length ∧ K (.agg ((cs.take 5).map DV.ro1))) := by rw [la_agg ia30, cn30]
theorem ia31 : isAggT pp 31 = false := by kernel_rfl
theorem cn31 : pp.cellsOf 31 = 1 := by kernel_rfl
theorem us31 : (pp.underlying 31).isSome = true := by kernel_rfl
theorem ft31 : funT pp 31 = false := by kernel_rfl
theorem bn31 : pp.bytesOf 31 = 24 := by kernel_rfl
theorem zi31 : (pp.info? 31).any (·.zero.isSome) = true := by kernel_rfl
theorem zd31_4 : zeroDV pp 4 31 = [.sl true 2 []] := by kernel_rfl
theorem zo31 : zeroOk pp 31 [.sl true 2 []] = true := by kernel_rfl
theorem zd31_6 : zeroDV pp 6 31 = [.sl true 2 []] := by kernel_rfl
theorem oc31 : ofCells pp 31 [.sl true 2 []] = (.sl true 2 []) := by simp [ofCells, ia31]
theorem la31 {c : DV} {r : List DV} {K : DV → Prop} : loadAs pp 31 (c :: r) K = K c.ro := la_cell ia31 us31
theorem ia32 : isAggT pp 32 = true := by kernel_rfl
theorem cn32 : pp.cellsOf 32 = 5 := by kernel_rfl
theorem us32 : (pp.underlying 32).isSome = true := by kernel_rfl
theorem ft32 : funT pp 32 = false := by kernel_rfl
theorem bn32 : pp.bytesOf 32 = 72 := by kernel_rfl
theorem zi32 : (pp.info? 32).any (·.zero.isSome) = true := by kernel_rfl
theorem zd32_4 : zeroDV pp 4 32 = [.int .i64 0, .bool false, .str [], .str [], .sl true 2 []] := by kernel_rfl
theorem zo32 : zeroOk pp 32 [.int .i64 0, .bool false, .str [], .str [], .sl true 2 []] = true := by kernel_rfl
theorem zd32_6 : zeroDV pp 6 32 = [.int .i64 0, .bool false, .str [], .str [], .sl true 2 []] := by kernel_rfl
theorem oc32 : ofCells pp 32 [.int .i64 0, .bool false, .str [], .str [], .sl true 2 []] = (.agg [.int .i64 0, .bool false, .str [], .str [], .sl true 2 []]) := by simp [ofCells, ia32]
theorem la32 {cs : List DV} {K : DV → Prop} : loadAs pp 32 cs K = (5 ≤ cs.length ∧ K (.agg ((cs.take 5).map DV.ro1))) := by rw [la_agg ia32, cn32]
theorem ia33 : isAggT pp 33 = true := by kernel_rfl
theorem cn33 : pp.cellsOf 33 = 5 := by kernel_rfl
theorem us33 : (pp.underlying 33).isSome = true := by kernel_rfl
theorem ft33 : funT pp 33 = false := by kernel_rfl
theorem bn33 : pp.bytesOf 33 = 72 := by kernel_rfl
theorem zi33 : (pp.info? 33).any (·.zero.isSome) = true := by kernel_rfl
theorem zd33_4 : zeroDV pp 4 33 = [.int .i64 0, .bool false, .str [], .str [], .sl true 2 []] := by kernel_rfl
theorem zo33 : zeroOk pp 33 [.int .i64 0, .bool false, .str [], .str [], .sl true 2 []] = true := by kernel_rfl
theorem zd33_6 : zeroDV pp 6 33 = [.int .i64 0, .bool false, .str [], .str [], .sl true 2 []] := by kernel_rfl
theorem oc33 : ofCells pp 33 [.int .i64 0, .bool false, .str [], .str [], .sl true 2 []] = (.agg [.int .i64 0, .bool false, .str [], .str [], .sl true 2 []]) := by simp [ofCells, ia33]
theorem la33 {cs : List DV} {K : DV → Prop} : loadAs pp 33 cs K = (5 ≤ cs.length ∧ K (.agg ((cs.take 5).map DV.ro1))) := by rw [la_agg ia33, cn33]
theorem ia34 : isAggT pp 34 = true := by kernel_rfl
theorem cn34 : pp.cellsOf 34 = 2 := by kernel_rfl
theorem us34 : (pp.underlying 34).isSome = true := by kernel_rfl
theorem ft34 : funT pp 34 = false := by kernel_rfl
theorem bn34 : pp.bytesOf 34 = 32 := by kernel_rfl
theorem zi34 : (pp.info? 34).any (·.zero.isSome) = true := by kernel_rfl
theorem zd34_4 : zeroDV pp 4 34 = [.str [], .str []] := by kernel_rfl
theorem zo34 : zeroOk pp 34 [.str [], .str []] = true := by kernel_rfl
theorem zd34_6 : zeroDV pp 6 34 = [.str [], .str []] := by kernel_rfl
theorem oc34 : ofCells pp 34 [.str [], .str []] = (.agg [.str [], .str []]) := by simp [ofCells, ia34]
theorem la34 {cs : List DV} {K : DV → Prop} : loadAs pp 34 cs K = (2 ≤ cs.length ∧ K (.agg ((cs.take 2).map DV.ro1))) := by rw [la_agg ia34, cn34]
theorem ia35 : isAggT pp 35 = true := by kernel_rfl
theorem cn35 : pp.cellsOf 35 = 2 := by kernel_rfl
theorem us35 : (pp.underlying 35).isSome = true := by kernel_rfl
theorem ft35 : funT pp 35 = false := by kernel_rfl
theorem bn35 : pp.bytesOf 35 = 32 := by kernel_rfl
theorem zi35 : (pp.info? 35).any (·.zero.isSome) = true := by kernel_rfl
theorem zd35_4 : zeroDV pp 4 35 = [.str [], .str []] := by kernel_rfl
theorem zo35 : zeroOk pp 35 [.str [], .str []] = true := by kernel_rfl
theorem zd35_6 : zeroDV pp 6 35 = [.str [], .str []] := by kernel_rfl
theorem oc35 : ofCells pp 35 [.str [], .str []] = (.agg [.str [], .str []]) := by simp [ofCells, ia35]
theorem la35 {cs : List DV} {K : DV → Prop} : loadAs pp 35 cs K = (2 ≤ cs.length ∧ K (.agg ((cs.take 2).map DV.ro1))) := by rw [la_agg ia35, cn35]
theorem ia38 : isAggT pp 38 = false := by kernel_rfl
theorem cn38 : pp.cellsOf 38 = 1 := by kernel_rfl
theorem us38 : (pp.underlying 38).isSome = true := by kernel_rfl
theorem ft38 : funT pp 38 = false := by kernel_rfl
theorem bn38 : pp.bytesOf 38 = 24 := by kernel_rfl
theorem zi38 : (pp.info? 38).any (·.zero.isSome) = true := by kernel_rfl
theorem zd38_4 : zeroDV pp 4 38 = [.sl true 1 []] := by kernel_rfl
theorem zo38 : zeroOk pp 38 [.sl true 1 []] = true := by kernel_rfl
theorem zd38_6 : zeroDV pp 6 38 = [.sl true 1 []] := by kernel_rfl
theorem oc38 : ofCells pp 38 [.sl true 1 []] = (.sl true 1 []) := by simp [ofCells, ia38]
theorem la38 {c : DV} {r : List DV} {K : DV → Prop} : loadAs pp 38 (c :: r) K = K c.ro := la_cell ia38 us38
theorem ia39 : isAggT pp 39 = true := by kernel_rfl
theorem cn39 : pp.cellsOf 39 = 1 := by kernel_rfl
theorem us39 : (pp.underlying 39).isSome = true := by kernel_rfl
theorem ft39 : funT pp 39 = false := by kernel_rfl
theorem bn39 : pp.bytesOf 39 = 24 := by kernel_rfl
theorem zi39 : (pp.info? 39).any (·.zero.isSome) = true := by kernel_rfl
theorem zd39_4 : zeroDV pp 4 39 = [.sl true 1 []] := by kernel_rfl
theorem zo39 : zeroOk pp 39 [.sl true 1 []] = true := by kernel_rfl
theorem zd39_6 : zeroDV pp 6 39 = [.sl true 1 []] := by kernel_rfl
theorem oc39 : ofCells pp 39 [.sl true 1 []] = (.agg [.sl true 1 []]) := by simp [ofCells, ia39]
theorem la39 {cs : List DV} {K : DV → Prop} : loadAs pp 39 cs K = (1 ≤ cs.length ∧ K (.agg ((cs.take 1).map DV.ro1))) := by rw [la_agg ia39, cn39]
theorem ia40 : isAggT pp 40 = true := by kernel_rfl
theorem cn40 : pp.cellsOf 40 = 1 := by kernel_rfl
theorem us40 : (pp.underlying 40).isSome = true := by kernel_rfl
theorem ft40 : funT pp 40 = false := by kernel_rfl
theorem bn40 : pp.bytesOf 40 = 24 := by kernel_rfl
theorem zi40 : (pp.info? 40).any (·.zero.isSome) = true := by kernel_rfl
theorem zd40_4 : zeroDV pp 4 40 = [.sl true 1 []] := by kernel_rfl
theorem zo40 : zeroOk pp 40 [.sl true 1 []] = true := by kernel_rfl
theorem zd40_6 : zeroDV pp 6 40 = [.sl true 1 []] := by kernel_rfl
theorem oc40 : ofCells pp 40 [.sl true 1 []] = (.agg [.sl true 1 []]) := by simp [ofCells, ia40]
theorem la40 {cs : List DV} {K : DV → Prop} : loadAs pp 40 cs K = (1 ≤ cs.length ∧ K (.agg ((cs.take 1).map DV.ro1))) := by rw [la_agg ia40, cn40]
theorem ia45 : isAggT pp 45 = true := by kernel_rfl
theorem cn45 : pp.cellsOf 45 = 10 := by kernel_rfl
theorem us45 : (pp.underlying 45).isSome = true := by kernel_rfl
theorem ft45 : funT pp 45 = false := by kernel_rfl
theorem bn45 : pp.bytesOf 45 = 10 := by kernel_rfl
theorem zi45 : (pp.info? 45).any (·.zero.isSome) = true := by kernel_rfl
theorem zd45_4 : zeroDV pp 4 45 = [.bool false, .bool false, .bool false, .bool false, .bool false, .bool false, .bool false, .bool false, .bool false, .bool false] := by kernel_rfl
theorem zo45 : zeroOk pp 45 [.bool false, .bool false, .bool false, .bool false, .bool false, .bool false, .bool false, .bool false, .bool false, .bool false] = true := by kernel_rfl
theorem zd45_6 : zeroDV pp 6 45 = [.bool false, .bool false, .bool false, .bool false, .bool false, .bool false, .bool false, .bool false, .bool false, .bool false] := by kernel_rfl
theorem oc45 : ofCells pp 45 [.bool false, .bool false, .bool false, .bool false, .bool false, .bool false, .bool false, .bool false, .bool false, .bool false] = (.agg [.bool false, .bool false, .bool false, .bool false, .bool false, .bool false, .bool false, .bool false, .bool false, .bool false]) := by simp [ofCells, ia45]
theorem la45 {cs : List DV} {K : DV → Prop} : loadAs pp 45 cs K = (10 ≤ cs.length ∧ K (.agg ((cs.take 10).map DV.ro1))) := by rw [la_agg ia45, cn45]
theorem ia48 : isAggT pp 48 = false := by kernel_rfl
theorem cn48 : pp.cellsOf 48 = 1 := by kernel_rfl
theorem us48 : (pp.underlying 48).isSome = true := by kernel_rfl
theorem ft48 : funT pp 48 = false := by kernel_rfl
theorem bn48 : pp.bytesOf 48 = 8 := by kernel_rfl
theorem zi48 : (pp.info? 48).any (·.zero.isSome) = true := by kernel_rfl
theorem zd48_4 : zeroDV pp 4 48 = [.nilmap] := by kernel_rfl
theorem zo48 : zeroOk pp 48 [.nilmap] = true := by kernel_rfl
theorem zd48_6 : zeroDV pp 6 48 = [.nilmap] := by kernel_rfl
theorem oc48 : ofCells pp 48 [.nilmap] = (.nilmap) := by simp [ofCells, ia48]
theorem la48 {c : DV} {r : List DV} {K : DV → Prop} : loadAs pp 48 (c :: r) K = K c.ro := la_cell ia48 us48
theorem ia49 : isAggT pp 49 = false := by kernel_rfl
theorem cn49 : pp.cellsOf 49 = 1 := by kernel_rfl
theorem us49 : (pp.underlying 49).isSome = true := by kernel_rfl
theorem ft49 : funT pp 49 = false := by kernel_rfl
theorem bn49 : pp.bytesOf 49 = 8 := by kernel_rfl
theorem zi49 : (pp.info? 49).any (·.zero.isSome) = true := by kernel_rfl
theorem zd49_4 : zeroDV pp 4 49 = [.nilmap] := by kernel_rfl
theorem zo49 : zeroOk pp 49 [.nilmap] = true := by kernel_rfl
theorem zd49_6 : zeroDV pp 6 49 = [.nilmap] := by kernel_rfl
theorem oc49 : ofCells pp 49 [.nilmap] = (.nilmap) := by simp [ofCells, ia49]
theorem la49 {c : DV} {r : List DV} {K : DV → Prop} : loadAs pp 49 (c :: r) K = K c.ro := la_cell ia49 us49
theorem ia53 : isAggT pp 53 = false := by kernel_rfl
theorem cn53 : pp.cellsOf 53 = 1 := by kernel_rfl
theorem us53 : (pp.underlying 53).isSome = true := by kernel_rfl
theorem ft53 : funT pp 53 = false := by kernel_rfl
theorem bn53 : pp.bytesOf 53 = 24 := by kernel_rfl
theorem zi53 : (pp.info? 53).any (·.zero.isSome) = true := by kernel_rfl
theorem zd53_4 : zeroDV pp 4 53 = [.sl true 1 []] := by kernel_rfl
theorem zo53 : zeroOk pp 53 [.sl true 1 []] = true := by kernel_rfl
theorem zd53_6 : zeroDV pp 6 53 = [.sl true 1 []] := by kernel_rfl
theorem oc53 : ofCells pp 53 [.sl true 1 []] = (.sl true 1 []) := by simp [ofCells, ia53]
theorem la53 {c : DV} {r : List DV} {K : DV → Prop} : loadAs pp 53 (c :: r) K = K c.ro := la_cell ia53 us53
theorem ia55 : isAggT pp 55 = false := by kernel_rfl
theorem cn55 : pp.cellsOf 55 = 1 := by kernel_rfl
theorem us55 : (pp.underlying 55).isSome = true := by kernel_rfl
theorem ft55 : funT pp 55 = false := by kernel_rfl
theorem bn55 : pp.bytesOf 55 = 8 := by kernel_rfl
theorem zi55 : (pp.info? 55).any (·.zero.isSome) = true := by kernel_rfl
theorem zd55_4 : zeroDV pp 4 55 = [.int .i64 0] := by kernel_rfl
theorem zo55 : zeroOk pp 55 [.int .i64 0] = true := by kernel_rfl
theorem zd55_6 : zeroDV pp 6 55 = [.int .i64 0] := by kernel_rfl
theorem oc55 : ofCells pp 55 [.int .i64 0] = (.int .i64 0) := by simp [ofCells, ia55]
theorem la55 {c : DV} {r : List DV} {K : DV → Prop} : loadAs pp 55 (c :: r) K = K c.ro := la_cell ia55 us55
theorem ia57 : isAggT pp 57 = false := by kernel_rfl
theorem cn57 : pp.cellsOf 57 = 1 := by kernel_rfl
theorem us57 : (pp.underlying 57).isSome = true := by kernel_rfl
theorem ft57 : funT pp 57 = false := by kernel_rfl
theorem bn57 : pp.bytesOf 57 = 24 := by kernel_rfl
theorem zi57 : (pp.info? 57).any (·.zero.isSome) = true := by kernel_rfl
theorem zd57_4 : zeroDV pp 4 57 = [.sl true 1 []] := by kernel_rfl
theorem zo57 : zeroOk pp 57 [.sl true 1 []] = true := by kernel_rfl
theorem zd57_6 : zeroDV pp 6 57 = [.sl true 1 []] := by kernel_rfl
theorem oc57 : ofCells pp 57 [.sl true 1 []] = (.sl true 1 []) := by simp [ofCells, ia57]
theorem la57 {c : DV} {r : List DV} {K : DV → Prop} : loadAs pp 57 (c :: r) K = K c.ro := la_cell ia57 us57
theorem ia60 : isAggT pp 60 = false := by kernel_rfl
theorem cn60 : pp.cellsOf 60 = 1 := by kernel_rfl
theorem us60 : (pp.underlying 60).isSome = true := by kernel_rfl
theorem ft60 : funT pp 60 = true := by kernel_rfl
theorem bn60 : pp.bytesOf 60 = 8 := by kernel_rfl
theorem la60 {c : DV} {r : List DV} {K : DV → Prop} : loadAs pp 60 (c :: r) K = K c.ro := la_cell ia60 us60
theorem ia68 : isAggT pp 68 = false := by kernel_rfl
theorem cn68 : pp.cellsOf 68 = 1 := by kernel_rfl
theorem us68 : (pp.underlying 68).isSome = true := by kernel_rfl
theorem ft68 : funT pp 68 = false := by kernel_rfl
theorem bn68 : pp.bytesOf 68 = 8 := by kernel_rfl
theorem zi68 : (pp.info? 68).any (·.zero.isSome) = true := by kernel_rfl
theorem zd68_4 : zeroDV pp 4 68 = [.nilmap] := by kernel_rfl
theorem zo68 : zeroOk pp 68 [.nilmap] = true := by kernel_rfl
theorem zd68_6 : zeroDV pp 6 68 = [.nilmap] := by kernel_rfl
theorem oc68 : ofCells pp 68 [.nilmap] = (.nilmap) := by simp [ofCells, ia68]
theorem la68 {c : DV} {r : List DV} {K : DV → Prop} : loadAs pp 68 (c :: r) K = K c.ro := la_cell ia68 us68
theorem ia77 : isAggT pp 77 = false := by kernel_rfl
theorem cn77 : pp.cellsOf 77 = 1 := by kernel_rfl
theorem us77 : (pp.underlying 77).isSome = true := by kernel_rfl
theorem ft77 : funT pp 77 = false := by kernel_rfl
theorem bn77 : pp.bytesOf 77 = 24 := by kernel_rfl
theorem zi77 : (pp.info? 77).any (·.zero.isSome) = true := by kernel_rfl
theorem zd77_4 : zeroDV pp 4 77 = [.sl true 1 []] := by kernel_rfl
theorem zo77 : zeroOk pp 77 [.sl true 1 []] = true := by kernel_rfl
theorem zd77_6 : zeroDV pp 6 77 = [.sl true 1 []] := by kernel_rfl
theorem oc77 : ofCells pp 77 [.sl true 1 []] = (.sl true 1 []) := by simp [ofCells, ia77]
theorem la77 {c : DV} {r : List DV} {K : DV → Prop} : loadAs pp 77 (c :: r) K = K c.ro := la_cell ia77 us77
theorem ia87 : isAggT pp 87 = false := by kernel_rfl
theorem cn87 : pp.cellsOf 87 = 1 := by kernel_rfl
theorem us87 : (pp.underlying 87).isSome = true := by kernel_rfl
theorem ft87 : funT pp 87 = false := by kernel_rfl
theorem bn87 : pp.bytesOf 87 = 8 := by kernel_rfl
theorem zi87 : (pp.info? 87).any (·.zero.isSome) = true := by kernel_rfl
theorem zd87_4 : zeroDV pp 4 87 = [.int .u64 0] := by kernel_rfl
theorem zo87 : zeroOk pp 87 [.int .u64 0] = true := by kernel_rfl
theorem zd87_6 : zeroDV pp 6 87 = [.int .u64 0] := by kernel_rfl
theorem oc87 : ofCells pp 87 [.int .u64 0] = (.int .u64 0) := by simp [ofCells, ia87]
theorem la87 {c : DV} {r : List DV} {K : DV → Prop} : loadAs pp 87 (c :: r) K = K c.ro := la_cell ia87 us87
theorem al26 {isObj : ObjT} {Γ : Env} {s : Nat} {t : TypeId} {p : String} {af : Array Edge} {g : Option (Nat × Bool)} {st : St} {K : St → Prop} : dopC pp isObj Γ (hold ⟨some s, .alloc 26, t, p, af, g⟩ (tag _)) st K = K (newVarD isObj st s 26 (.agg [.str [], .bool false, .str []])) := by rw [o_al ft26 zd26_6 zo26 (by rw [oc26]; rfl), oc26]
theorem al30 {isObj : ObjT} {Γ : Env} {s : Nat} {t : TypeId} {p : String} {af : Array Edge} {g : Option (Nat × Bool)} {st : St} {K : St → Prop} : dopC pp isObj Γ (hold ⟨some s, .alloc 30, t, p, af, g⟩ (tag _)) st K = K (newVarD isObj st s 30 (.agg [.int .i64 0, .int .i64 0, .int .i64 0, .sl true 5 [], .sl true 3 []])) := by rw [o_al ft30 zd30_6 zo30 (by rw [oc30]; rfl), oc30]
theorem al33 {isObj : ObjT} {Γ : Env} {s : Nat} {t : TypeId} {p : String} {af : Array Edge} {g : Option (Nat × Bool)} {st : St} {K : St → Prop} : dopC pp isObj Γ (hold ⟨some s, .alloc 33, t, p, af, g⟩ (tag _)) st K = K (newVarD isObj st s 33 (.agg [.int .i64 0, .bool false, .str [], .str [], .sl true 2 []])) := by rw [o_al ft33 zd33_6 zo33 (by rw [oc33]; rfl), oc33]
theorem al40 {isObj : ObjT} {Γ : Env} {s : Nat} {t : TypeId} {p : String} {af : Array Edge} {g : Option (Nat × Bool)} {st : St} {K : St → Prop} : dopC pp isObj Γ (hold ⟨some s, .alloc 40, t, p, af, g⟩ (tag _)) st K = K (newVarD isObj st s 40 (.agg [.sl true 1 []])) := by rw [o_al ft40 zd40_6 zo40 (by rw [oc40]; rfl), oc40]
theorem al45 {isObj : ObjT} {Γ : Env} {s : Nat} {t : TypeId} {p : String} {af : Array Edge} {g : Option (Nat × Bool)} {st : St} {K : St → Prop} : dopC pp isObj Γ (hold ⟨some s, .alloc 45, t, p, af, g⟩ (tag _)) st K = K (newVarD isObj st s 45 (.agg [.bool false, .bool false, .bool false, .bool false, .bool false, .bool false, .bool false, .bool false, .bool false, .bool false])) := by rw [o_al ft45 zd45_6 zo45 (by rw [oc45]; rfl), oc45]
theorem al57 {isObj : ObjT} {Γ : Env} {s : Nat} {t : TypeId} {p : String} {af : Array Edge} {g : Option (Nat × Bool)} {st : St} {K : St → Prop} : dopC pp isObj Γ (hold ⟨some s, .alloc 57, t, p, af, g⟩ (tag _)) st K = K (newVarD isObj st s 57 (.sl true 1 [])) := by rw [o_al ft57 zd57_6 zo57 (by rw [oc57]; rfl), oc57]
theorem al60 {isObj : ObjT} {Γ : Env} {s : Nat} {t : TypeId} {p : String} {af : Array Edge} {g : Option (Nat × Bool)} {st : St} {K : St → Prop} (h : isObj 60 = true) : dopC pp isObj Γ (hold ⟨some s, .alloc 60, t, p, af, g⟩ (tag _)) st K = K (newFunS st s) := o_allocF ft60 h
theorem fp26_0 {i o : Nat} {K : DV → Prop} : dfieldAddr pp 26 (.ptr i o) 0 K = K (.ptr i (o + 0)) := by
  have h := fa_ptr (P := pp) (K := K) (i := i) (o := o) Go.Proofs.Try.underlying26 (f := 0) rfl
  exact h (by show pp.cellsOf 9 ≠ 0; rw [cn9]; decide)
theorem fl26_0 {s g o : Nat} {K : DV → Prop} : dfieldAddr pp 26 (.lptr s g o) 0 K = K (.lptr s g (o + 0)) := by
  have h := fa_lptr (P := pp) (K := K) (s := s) (g := g) (o := o) Go.Proofs.Try.underlying26 (f := 0) rfl
  exact h (by show pp.cellsOf 9 ≠ 0; rw [cn9]; decide)
theorem fv26_0 {cs : List DV} {K : DV → Prop} : dfieldAddr pp 26 (.vptr cs) 0 K = K (.vptr (cs.drop 0)) := by
  have h := fa_vptr (P := pp) (K := K) (cs := cs) Go.Proofs.Try.underlying26 (f := 0) rfl
  exact h (by show pp.cellsOf 9 ≠ 0; rw [cn9]; decide)
theorem fd26_0 {cs : List DV} {K : DV → Prop} : dfield pp 26 (.agg cs) 0 K = loadAs pp 9 (cs.drop 0) K := by
  have h := fd_agg (P := pp) (cs := cs) (K := K) Go.Proofs.Try.underlying26 (f := 0) rfl
  exact h
theorem fp26_1 {i o : Nat} {K : DV → Prop} : dfieldAddr pp 26 (.ptr i o) 1 K = K (.ptr i (o + 1)) := by
  have h := fa_ptr (P := pp) (K := K) (i := i) (o := o) Go.Proofs.Try.underlying26 (f := 1) rfl
  exact h (by show pp.cellsOf 4 ≠ 0; rw [cn4]; decide)
theorem fl26_1 {s g o : Nat} {K : DV → Prop} : dfieldAddr pp 26 (.lptr s g o) 1 K = K (.lptr s g (o + 1)) := by
  have h := fa_lptr (P := pp) (K := K) (s := s) (g := g) (o := o) Go.Proofs.Try.underlying26 (f := 1) rfl
  exact h (by show pp.cellsOf 4 ≠ 0; rw [cn4]; decide)
theorem fv26_1 {cs : List DV} {K : DV → Prop} : dfieldAddr pp 26 (.vptr cs) 1 K = K (.vptr (cs.drop 1)) := by
  have h := fa_vptr (P := pp) (K := K) (cs := cs) Go.Proofs.Try.underlying26 (f := 1) rfl
  exact h (by show pp.cellsOf 4 ≠ 0; rw [cn4]; decide)
theorem fd26_1 {cs : List DV} {K : DV → Prop} : dfield pp 26 (.agg cs) 1 K = loadAs pp 4 (cs.drop 1) K := by
  have h := fd_agg (P := pp) (cs := cs) (K := K) Go.Proofs.Try.underlying26 (f := 1) rfl
  exact h
theorem fp26_2 {i o : Nat} {K : DV → Prop} : dfieldAddr pp 26 (.ptr i o) 2 K = K (.ptr i (o + 2)) := by
  have h := fa_ptr (P := pp) (K := K) (i := i) (o := o) Go.Proofs.Try.underlying26 (f := 2) rfl
  exact h (by show pp.cellsOf 9 ≠ 0; rw [cn9]; decide)
theorem fl26_2 {s g o : Nat} {K : DV → Prop} : dfieldAddr pp 26 (.lptr s g o) 2 K = K (.lptr s g (o + 2)) := by
  have h := fa_lptr (P := pp) (K := K) (s := s) (g := g) (o := o) Go.Proofs.Try.underlying26 (f := 2) rfl
  exact h (by show pp.cellsOf 9 ≠ 0; rw [cn9]; decide)
theorem fv26_2 {cs : List DV} {K : DV → Prop} : dfieldAddr pp 26 (.vptr cs) 2 K = K (.vptr (cs.drop 2)) := by
  have h := fa_vptr (P := pp) (K := K) (cs := cs) Go.Proofs.Try.underlying26 (f := 2) rfl
  exact h (by show pp.cellsOf 9 ≠ 0; rw [cn9]; decide)
theorem fd26_2 {cs : List DV} {K : DV → Prop} : dfield pp 26 (.agg cs) 2 K = loadAs pp 9 (cs.drop 2) K := by
  have h := fd_agg (P := pp) (cs := cs) (K := K) Go.Proofs.Try.underlying26 (f := 2) rfl
  exact h
theorem fp30_0 {i o : Nat} {K : DV → Prop} : dfieldAddr pp 30 (.ptr i o) 0 K = K (.ptr i (o + 0)) := by
  have h := fa_ptr (P := pp) (K := K) (i := i) (o := o) Go.Proofs.Try.underlying30 (f := 0) rfl
  exact h (by show pp.cellsOf 3 ≠ 0; rw [cn3]; decide)
theorem fl30_0 {s g o : Nat} {K : DV → Prop} : dfieldAddr pp 30 (.lptr s g o) 0 K = K (.lptr s g (o + 0)) := by
  have h := fa_lptr (P := pp) (K := K) (s := s) (g := g) (o := o) Go.Proofs.Try.underlying30 (f := 0) rfl
  exact h (by show pp.cellsOf 3 ≠ 0; rw [cn3]; decide)
theorem fv30_0 {cs : List DV} {K : DV → Prop} : dfieldAddr pp 30 (.vptr cs) 0 K = K (.vptr (cs.drop 0)) := by
  have h := fa_vptr (P := pp) (K := K) (cs := cs) Go.Proofs.Try.underlying30 (f := 0) rfl
  exact h (by show pp.cellsOf 3 ≠ 0; rw [cn3]; decide)
theorem fd30_0 {cs : List DV} {K : DV → Prop} : dfield pp 30 (.agg cs) 0 K = loadAs pp 3 (cs.drop 0) K := by
  have h := fd_agg (P := pp) (cs := cs) (K := K) Go.Proofs.Try.underlying30 (f := 0) rfl
  exact h
theorem fp30_1 {i o : Nat} {K : DV → Prop} : dfieldAddr pp 30 (.ptr i o) 1 K = K (.ptr i (o + 1)) := by
  have h := fa_ptr (P := pp) (K := K) (i := i) (o := o) Go.Proofs.Try.underlying30 (f := 1) rfl
  exact h (by show pp.cellsOf 3 ≠ 0; rw [cn3]; decide)
theorem fl30_1 {s g o : Nat} {K : DV → Prop} : dfieldAddr pp 30 (.lptr s g o) 1 K = K (.lptr s g (o + 1)) := by
  have h := fa_lptr (P := pp) (K := K) (s := s) (g := g) (o := o) Go.Proofs.Try.underlying30 (f := 1) rfl
  exact h (by show pp.cellsOf 3 ≠ 0; rw [cn3]; decide)
theorem fv30_1 {cs : List DV} {K : DV → Prop} : dfieldAddr pp 30 (.vptr cs) 1 K = K (.vptr (cs.drop 1)) := by
  have h := fa_vptr (P := pp) (K := K) (cs := cs) Go.Proofs.Try.underlying30 (f := 1) rfl
  exact h (by show pp.cellsOf 3 ≠ 0; rw [cn3]; decide)
theorem fd30_1 {cs : List DV} {K : DV → Prop} : dfield pp 30 (.agg cs) 1 K = loadAs pp 3 (cs.drop 1) K := by
  have h := fd_agg (P := pp) (cs := cs) (K := K) Go.Proofs.Try.underlying30 (f := 1) rfl
  exact h
theorem fp30_2 {i o : Nat} {K : DV → Prop} : dfieldAddr pp 30 (.ptr i o) 2 K = K (.ptr i (o + 2)) := by
  have h := fa_ptr (P := pp) (K := K) (i := i) (o := o) Go.Proofs.Try.underlying30 (f := 2) rfl
  exact h (by show pp.cellsOf 3 ≠ 0; rw [cn3]; decide)
theorem fl30_2 {s g o : Nat} {K : DV → Prop} : dfieldAddr pp 30 (.lptr s g o) 2 K = K (.lptr s g (o + 2)) := by
  have h := fa_lptr (P := pp) (K := K) (s := s) (g := g) (o := o) Go.Proofs.Try.underlying30 (f := 2) rfl
  exact h (by show pp.cellsOf 3 ≠ 0; rw [cn3]; decide)
theorem fv30_2 {cs : List DV} {K : DV → Prop} : dfieldAddr pp 30 (.vptr cs) 2 K = K (.vptr (cs.drop 2)) := by
  have h := fa_vptr (P := pp) (K := K) (cs := cs) Go.Proofs.Try.underlying30 (f := 2) rfl
  exact h (by show pp.cellsOf 3 ≠ 0; rw [cn3]; decide)
theorem fd30_2 {cs : List DV} {K : DV → Prop} : dfield pp 30 (.agg cs) 2 K = loadAs pp 3 (cs.drop 2) K := by
  have h := fd_agg (P := pp) (cs := cs) (K := K) Go.Proofs.Try.underlying30 (f := 2) rfl
  exact h
theorem fp30_3 {i o : Nat} {K : DV → Prop} : dfieldAddr pp 30 (.ptr i o) 3 K = K (.ptr i (o + 3)) := by
  have h := fa_ptr (P := pp) (K := K) (i := i) (o := o) Go.Proofs.Try.underlying30 (f := 3) rfl
  exact h (by show pp.cellsOf 28 ≠ 0; rw [cn28]; decide)
theorem fl30_3 {s g o : Nat} {K : DV → Prop} : dfieldAddr pp 30 (.lptr s g o) 3 K = K (.lptr s g (o + 3)) := by
  have h := fa_lptr (P := pp) (K := K) (s := s) (g := g) (o := o) Go.Proofs.Try.underlying30 (f := 3) rfl
  exact h (by show pp.cellsOf 28 ≠ 0; rw [cn28]; decide)
theorem fv30_3 {cs : List DV} {K : DV → Prop} : dfieldAddr pp 30 (.vptr cs) 3 K = K (.vptr (cs.drop 3)) := by
  have h := fa_vptr (P := pp) (K := K) (cs := cs) Go.Proofs.Try.underlying30 (f := 3) rfl
  exact h (by show pp.cellsOf 28 ≠ 0; rw [cn28]; decide)
theorem fd30_3 {cs : List DV} {K : DV → Prop} : dfield pp 30 (.agg cs) 3 K = loadAs pp 28 (cs.drop 3) K := by
  have h := fd_agg (P := pp) (cs := cs) (K := K) Go.Proofs.Try.underlying30 (f := 3) rfl
  exact h
theorem fp30_4 {i o : Nat} {K : DV → Prop} : dfieldAddr pp 30 (.ptr i o) 4 K = K (.ptr i (o + 4)) := by
  have h := fa_ptr (P := pp) (K := K) (i := i) (o := o) Go.Proofs.Try.underlying30 (f := 4) rfl
  exact h (by show pp.cellsOf 27 ≠ 0; rw [cn27]; decide)
theorem fl30_4 {s g o : Nat} {K : DV → Prop} : dfieldAddr pp 30 (.lptr s g o) 4 K = K (.lptr s g (o + 4)) := by
  have h := fa_lptr (P := pp) (K := K) (s := s) (g := g) (o := o) Go.Proofs.Try.underlying30 (f := 4) rfl
  exact h (by show pp.cellsOf 27 ≠ 0; rw [cn27]; decide)
theorem fv30_4 {cs : List DV} {K : DV → Prop} : dfieldAddr pp 30 (.vptr cs) 4 K = K (.vptr (cs.drop 4)) := by
  have h := fa_vptr (P := pp) (K := K) (cs := cs) Go.Proofs.Try.underlying30 (f := 4) rfl
  exact h (by show pp.cellsOf 27 ≠ 0; rw [cn27]; decide)
theorem fd30_4 {cs : List DV} {K : DV → Prop} : dfield pp 30 (.agg cs) 4 K = loadAs pp 27 (cs.drop 4) K := by
  have h := fd_agg (P := pp) (cs := cs) (K := K) Go.Proofs.Try.underlying30 (f := 4) rfl
  exact h
theorem fp33_0 {i o : Nat} {K : DV → Prop} : dfieldAddr pp 33 (.ptr i o) 0 K = K (.ptr i (o + 0)) := by
  have h := fa_ptr (P := pp) (K := K) (i := i) (o := o) Go.Proofs.Try.underlying33 (f := 0) rfl
  exact h (by show pp.cellsOf 3 ≠ 0; rw [cn3]; decide)
theorem fl33_0 {s g o : Nat} {K : DV → Prop} : dfieldAddr pp 33 (.lptr s g o) 0 K = K (.lptr s g (o + 0)) := by
  have h := fa_lptr (P := pp) (K := K) (s := s) (g := g) (o := o) Go.Proofs.Try.underlying33 (f := 0) rfl
  exact h (by show pp.cellsOf 3 ≠ 0; rw [cn3]; decide)
theorem fv33_0 {cs : List DV} {K : DV → Prop} : dfieldAddr pp 33 (.vptr cs) 0 K = K (.vptr (cs.drop 0)) := by
  have h := fa_vptr (P := pp) (K := K) (cs := cs) Go.Proofs.Try.underlying33 (f := 0) rfl
  exact h (by show pp.cellsOf 3 ≠ 0; rw [cn3]; decide)
theorem fd33_0 {cs : List DV} {K : DV → Prop} : dfield pp 33 (.agg cs) 0 K = loadAs pp 3 (cs.drop 0) K := by
  have h := fd_agg (P := pp) (cs := cs) (K := K) Go.Proofs.Try.underlying33 (f := 0) rfl
  exact h
theorem fp33_1 {i o : Nat} {K : DV → Prop} : dfieldAddr pp 33 (.ptr i o) 1 K = K (.ptr i (o + 1)) := by
  have h := fa_ptr (P := pp) (K := K) (i := i) (o := o) Go.Proofs.Try.underlying33 (f := 1) rfl
  exact h (by show pp.cellsOf 4 ≠ 0; rw [cn4]; decide)
theorem fl33_1 {s g o : Nat} {K : DV → Prop} : dfieldAddr pp 33 (.lptr s g o) 1 K = K (.lptr s g (o + 1)) := by
  have h := fa_lptr (P := pp) (K := K) (s := s) (g := g) (o := o) Go.Proofs.Try.underlying33 (f := 1) rfl
  exact h (by show pp.cellsOf 4 ≠ 0; rw [cn4]; decide)
theorem fv33_1 {cs : List DV} {K : DV → Prop} : dfieldAddr pp 33 (.vptr cs) 1 K = K (.vptr (cs.drop 1)) := by
  have h := fa_vptr (P := pp) (K := K) (cs := cs) Go.Proofs.Try.underlying33 (f := 1) rfl
  exact h (by show pp.cellsOf 4 ≠ 0; rw [cn4]; decide)
theorem fd33_1 {cs : List DV} {K : DV → Prop} : dfield pp 33 (.agg cs) 1 K = loadAs pp 4 (cs.drop 1) K := by
  have h := fd_agg (P := pp) (cs := cs) (K := K) Go.Proofs.Try.underlying33 (f := 1) rfl
  exact h
theorem fp33_2 {i o : Nat} {K : DV → Prop} : dfieldAddr pp 33 (.ptr i o) 2 K = K (.ptr i (o + 2)) := by
  have h := fa_ptr (P := pp) (K := K) (i := i) (o := o) Go.Proofs.Try.underlying33 (f := 2) rfl
  exact h (by show pp.cellsOf 9 ≠ 0; rw [cn9]; decide)
theorem fl33_2 {s g o : Nat} {K : DV → Prop} : dfieldAddr pp 33 (.lptr s g o) 2 K = K (.lptr s g (o + 2)) := by
  have h := fa_lptr (P := pp) (K := K) (s := s) (g := g) (o := o) Go.Proofs.Try.underlying33 (f := 2) rfl
  exact h (by show pp.cellsOf 9 ≠ 0; rw [cn9]; decide)
theorem fv33_2 {cs : List DV} {K : DV → Prop} : dfieldAddr pp 33 (.vptr cs) 2 K = K (.vptr (cs.drop 2)) := by
  have h := fa_vptr (P := pp) (K := K) (cs := cs) Go.Proofs.Try.underlying33 (f := 2) rfl
  exact h (by show pp.cellsOf 9 ≠ 0; rw [cn9]; decide)
theorem fd33_2 {cs : List DV} {K : DV → Prop} : dfield pp 33 (.agg cs) 2 K = loadAs pp 9 (cs.drop 2) K := by
  have h := fd_agg (P := pp) (cs := cs) (K := K) Go.Proofs.Try.underlying33 (f := 2) rfl
  exact h
theorem fp33_3 {i o : Nat} {K : DV → Prop} : dfieldAddr pp 33 (.ptr i o) 3 K = K (.ptr i (o + 3)) := by
  have h := fa_ptr (P := pp) (K := K) (i := i) (o := o) Go.Proofs.Try.underlying33 (f := 3) rfl
  exact h (by show pp.cellsOf 9 ≠ 0; rw [cn9]; decide)
theorem fl33_3 {s g o : Nat} {K : DV → Prop} : dfieldAddr pp 33 (.lptr s g o) 3 K = K (.lptr s g (o + 3)) := by
  have h := fa_lptr (P := pp) (K := K) (s := s) (g := g) (o := o) Go.Proofs.Try.underlying33 (f := 3) rfl
  exact h (by show pp.cellsOf 9 ≠ 0; rw [cn9]; decide)
theorem fv33_3 {cs : List DV} {K : DV → Prop} : dfieldAddr pp 33 (.vptr cs) 3 K = K (.vptr (cs.drop 3)) := by
  have h := fa_vptr (P := pp) (K := K) (cs := cs) Go.Proofs.Try.underlying33 (f := 3) rfl
  exact h (by show pp.cellsOf 9 ≠ 0; rw [cn9]; decide)
theorem fd33_3 {cs : List DV} {K : DV → Prop} : dfield pp 33 (.agg cs) 3 K = loadAs pp 9 (cs.drop 3) K := by
  have h := fd_agg (P := pp) (cs := cs) (K := K) Go.Proofs.Try.underlying33 (f := 3) rfl
  exact h
theorem fp33_4 {i o : Nat} {K : DV → Prop} : dfieldAddr pp 33 (.ptr i o) 4 K = K (.ptr i (o + 4)) := by
  have h := fa_ptr (P := pp) (K := K) (i := i) (o := o) Go.Proofs.Try.underlying33 (f := 4) rfl
  exact h (by show pp.cellsOf 31 ≠ 0; rw [cn31]; decide)
theorem fl33_4 {s g o : Nat} {K : DV → Prop} : dfieldAddr pp 33 (.lptr s g o) 4 K = K (.lptr s g (o + 4)) := by
  have h := fa_lptr (P := pp) (K := K) (s := s) (g := g) (o := o) Go.Proofs.Try.underlying33 (f := 4) rfl
  exact h (by show pp.cellsOf 31 ≠ 0; rw [cn31]; decide)
theorem fv33_4 {cs : List DV} {K : DV → Prop} : dfieldAddr pp 33 (.vptr cs) 4 K = K (.vptr (cs.drop 4)) := by
  have h := fa_vptr (P := pp) (K := K) (cs := cs) Go.Proofs.Try.underlying33 (f := 4) rfl
  exact h (by show pp.cellsOf 31 ≠ 0; rw [cn31]; decide)
theorem fd33_4 {cs : List DV} {K : DV → Prop} : dfield pp 33 (.agg cs) 4 K = loadAs pp 31 (cs.drop 4) K := by
  have h := fd_agg (P := pp) (cs := cs) (K := K) Go.Proofs.Try.underlying33 (f := 4) rfl
  exact h
theorem fp40_0 {i o : Nat} {K : DV → Prop} : dfieldAddr pp 40 (.ptr i o) 0 K = K (.ptr i (o + 0)) := by
  have h := fa_ptr (P := pp) (K := K) (i := i) (o := o) Go.Proofs.Try.underlying40 (f := 0) rfl
  exact h (by show pp.cellsOf 38 ≠ 0; rw [cn38]; decide)
theorem fl40_0 {s g o : Nat} {K : DV → Prop} : dfieldAddr pp 40 (.lptr s g o) 0 K = K (.lptr s g (o + 0)) := by
  have h := fa_lptr (P := pp) (K := K) (s := s) (g := g) (o := o) Go.Proofs.Try.underlying40 (f := 0) rfl
  exact h (by show pp.cellsOf 38 ≠ 0; rw [cn38]; decide)
theorem fv40_0 {cs : List DV} {K : DV → Prop} : dfieldAddr pp 40 (.vptr cs) 0 K = K (.vptr (cs.drop 0)) := by
  have h := fa_vptr (P := pp) (K := K) (cs := cs) Go.Proofs.Try.underlying40 (f := 0) rfl
  exact h (by show pp.cellsOf 38 ≠ 0; rw [cn38]; decide)
theorem fd40_0 {cs : List DV} {K : DV → Prop} : dfield pp 40 (.agg cs) 0 K = loadAs pp 38 (cs.drop 0) K := by
  have h := fd_agg (P := pp) (cs := cs) (K := K) Go.Proofs.Try.underlying40 (f := 0) rfl
  exact h
theorem dl22 {n : Nat} {l : List (Nat × DV)} {B : List (Nat × Nat × List DV)} {H : List HObj} {lk : List (Nat × Pos)} {K : DV → Prop} {own : Bool} {sz : Nat} {xs : List DV} : dlen pp (mk n l B H lk) 22 (.sl own sz xs) K = K (.int .i64 xs.length) := dl_sl Go.Proofs.Try.underlying22
theorem dlh22 {n : Nat} {l : List (Nat × DV)} {B : List (Nat × Nat × List DV)} {H : List HObj} {lk : List (Nat × Pos)} {K : DV → Prop} {id sz off len : Nat} : dlen pp (mk n l B H lk) 22 (.hsl id sz off len) K = K (.int .i64 len) := dl_hsl Go.Proofs.Try.underlying22
theorem dl24 {n : Nat} {l : List (Nat × DV)} {B : List (Nat × Nat × List DV)} {H : List HObj} {lk : List (Nat × Pos)} {K : DV → Prop} {own : Bool} {sz : Nat} {xs : List DV} : dlen pp (mk n l B H lk) 24 (.sl own sz xs) K = K (.int .i64 xs.length) := dl_sl Go.Proofs.Try.underlying24
theorem dlh24 {n : Nat} {l : List (Nat × DV)} {B : List (Nat × Nat × List DV)} {H : List HObj} {lk : List (Nat × Pos)} {K : DV → Prop} {id sz off len : Nat} : dlen pp (mk n l B H lk) 24 (.hsl id sz off len) K = K (.int .i64 len) := dl_hsl Go.Proofs.Try.underlying24
theorem dl27 {n : Nat} {l : List (Nat × DV)} {B : List (Nat × Nat × List DV)} {H : List HObj} {lk : List (Nat × Pos)} {K : DV → Prop} {own : Bool} {sz : Nat} {xs : List DV} : dlen pp (mk n l B H lk) 27 (.sl own sz xs) K = K (.int .i64 xs.length) := dl_sl Go.Proofs.Try.underlying27
theorem dlh27 {n : Nat} {l : List (Nat × DV)} {B : List (Nat × Nat × List DV)} {H : List HObj} {lk : List (Nat × Pos)} {K : DV → Prop} {id sz off len : Nat} : dlen pp (mk n l B H lk) 27 (.hsl id sz off len) K = K (.int .i64 len) := dl_hsl Go.Proofs.Try.underlying27
theorem dl28 {n : Nat} {l : List (Nat × DV)} {B : List (Nat × Nat × List DV)} {H : List HObj} {lk : List (Nat × Pos)} {K : DV → Prop} {own : Bool} {sz : Nat} {xs : List DV} : dlen pp (mk n l B H lk) 28 (.sl own sz xs) K = K (.int .i64 xs.length) := dl_sl Go.Proofs.Try.underlying28
theorem dlh28 {n : Nat} {l : List (Nat × DV)} {B : List (Nat × Nat × List DV)} {H : List HObj} {lk : List (Nat × Pos)} {K : DV → Prop} {id sz off len : Nat} : dlen pp (mk n l B H lk) 28 (.hsl id sz off len) K = K (.int .i64 len) := dl_hsl Go.Proofs.Try.underlying28
theorem dl31 {n : Nat} {l : List (Nat × DV)} {B : List (Nat × Nat × List DV)} {H : List HObj} {lk : List (Nat × Pos)} {K : DV → Prop} {own : Bool} {sz : Nat} {xs : List DV} : dlen pp (mk n l B H lk) 31 (.sl own sz xs) K = K (.int .i64 xs.length) := dl_sl Go.Proofs.Try.underlying31
theorem dlh31 {n : Nat} {l : List (Nat × DV)} {B : List (Nat × Nat × List DV)} {H : List HObj} {lk : List (Nat × Pos)} {K : DV → Prop} {id sz off len : Nat} : dlen pp (mk n l B H lk) 31 (.hsl id sz off len) K = K (.int .i64 len) := dl_hsl Go.Proofs.Try.underlying31
theorem dl38 {n : Nat} {l : List (Nat × DV)} {B : List (Nat × Nat × List DV)} {H : List HObj} {lk : List (Nat × Pos)} {K : DV → Prop} {own : Bool} {sz : Nat} {xs : List DV} : dlen pp (mk n l B H lk) 38 (.sl own sz xs) K = K (.int .i64 xs.length) := dl_sl Go.Proofs.Try.underlying38
theorem dlh38 {n : Nat} {l : List (Nat × DV)} {B : List (Nat × Nat × List DV)} {H : List HObj} {lk : List (Nat × Pos)} {K : DV → Prop} {id sz off len : Nat} : dlen pp (mk n l B H lk) 38 (.hsl id sz off len) K = K (.int .i64 len) := dl_hsl Go.Proofs.Try.underlying38
theorem dl53 {n : Nat} {l : List (Nat × DV)} {B : List (Nat × Nat × List DV)} {H : List HObj} {lk : List (Nat × Pos)} {K : DV → Prop} {own : Bool} {sz : Nat} {xs : List DV} : dlen pp (mk n l B H lk) 53 (.sl own sz xs) K = K (.int .i64 xs.length) := dl_sl Go.Proofs.Try.underlying53
theorem dlh53 {n : Nat} {l : List (Nat × DV)} {B : List (Nat × Nat × List DV)} {H : List HObj} {lk : List (Nat × Pos)} {K : DV → Prop} {id sz off len : Nat} : dlen pp (mk n l B H lk) 53 (.hsl id sz off len) K = K (.int .i64 len) := dl_hsl Go.Proofs.Try.underlying53
theorem dl57 {n : Nat} {l : List (Nat × DV)} {B : List (Nat × Nat × List DV)} {H : List HObj} {lk : List (Nat × Pos)} {K : DV → Prop} {own : Bool} {sz : Nat} {xs : List DV} : dlen pp (mk n l B H lk) 57 (.sl own sz xs) K = K (.int .i64 xs.length) := dl_sl Go.Proofs.Try.underlying57
theorem dlh57 {n : Nat} {l : List (Nat × DV)} {B : List (Nat × Nat × List DV)} {H : List HObj} {lk : List (Nat × Pos)} {K : DV → Prop} {id sz off len : Nat} : dlen pp (mk n l B H lk) 57 (.hsl id sz off len) K = K (.int .i64 len) := dl_hsl Go.Proofs.Try.underlying57
theorem dl77 {n : Nat} {l : List (Nat × DV)} {B : List (Nat × Nat × List DV)} {H : List HObj} {lk : List (Nat × Pos)} {K : DV → Prop} {own : Bool} {sz : Nat} {xs : List DV} : dlen pp (mk n l B H lk) 77 (.sl own sz xs) K = K (.int .i64 xs.length) := dl_sl Go.Proofs.Try.underlying77
theorem dlh77 {n : Nat} {l : List (Nat × DV)} {B : List (Nat × Nat × List DV)} {H : List HObj} {lk : List (Nat × Pos)} {K : DV → Prop} {id sz off len : Nat} : dlen pp (mk n l B H lk) 77 (.hsl id sz off len) K = K (.int .i64 len) := dl_hsl Go.Proofs.Try.underlying77
theorem ix22 {k : IntKind} {i : Int} {own : Bool} {xs : List DV} {K : DV → Prop} : dindexAddr pp 22 (.sl own 1 xs) (.int k i) K = (0 ≤ i ∧ i < xs.length ∧ K (.vptr (xs.getD i.toNat .undef).cells)) := ia_sl Go.Proofs.Try.underlying22 cn5 us5
theorem ixh22 {k : IntKind} {i : Int} {id off len : Nat} {K : DV → Prop} : dindexAddr pp 22 (.hsl id 1 off len) (.int k i) K = (0 ≤ i ∧ i < len ∧ K (.ptr id (off + i.toNat * 1))) := ia_hsl Go.Proofs.Try.underlying22 cn5 us5
theorem ix24 {k : IntKind} {i : Int} {own : Bool} {xs : List DV} {K : DV → Prop} : dindexAddr pp 24 (.sl own 5 xs) (.int k i) K = (0 ≤ i ∧ i < xs.length ∧ K (.vptr (xs.getD i.toNat .undef).cells)) := ia_sl Go.Proofs.Try.underlying24 cn30 us30
theorem ixh24 {k : IntKind} {i : Int} {id off len : Nat} {K : DV → Prop} : dindexAddr pp 24 (.hsl id 5 off len) (.int k i) K = (0 ≤ i ∧ i < len ∧ K (.ptr id (off + i.toNat * 5))) := ia_hsl Go.Proofs.Try.underlying24 cn30 us30
theorem ix27 {k : IntKind} {i : Int} {own : Bool} {xs : List DV} {K : DV → Prop} : dindexAddr pp 27 (.sl own 3 xs) (.int k i) K = (0 ≤ i ∧ i < xs.length ∧ K (.vptr (xs.getD i.toNat .undef).cells)) := ia_sl Go.Proofs.Try.underlying27 cn26 us26
theorem ixh27 {k : IntKind} {i : Int} {id off len : Nat} {K : DV → Prop} : dindexAddr pp 27 (.hsl id 3 off len) (.int k i) K = (0 ≤ i ∧ i < len ∧ K (.ptr id (off + i.toNat * 3))) := ia_hsl Go.Proofs.Try.underlying27 cn26 us26
theorem ix28 {k : IntKind} {i : Int} {own : Bool} {xs : List DV} {K : DV → Prop} : dindexAddr pp 28 (.sl own 5 xs) (.int k i) K = (0 ≤ i ∧ i < xs.length ∧ K (.vptr (xs.getD i.toNat .undef).cells)) := ia_sl Go.Proofs.Try.underlying28 cn33 us33
theorem ixh28 {k : IntKind} {i : Int} {id off len : Nat} {K : DV → Prop} : dindexAddr pp 28 (.hsl id 5 off len) (.int k i) K = (0 ≤ i ∧ i < len ∧ K (.ptr id (off + i.toNat * 5))) := ia_hsl Go.Proofs.Try.underlying28 cn33 us33
theorem ix31 {k : IntKind} {i : Int} {own : Bool} {xs : List DV} {K : DV → Prop} : dindexAddr pp 31 (.sl own 2 xs) (.int k i) K = (0 ≤ i ∧ i < xs.length ∧ K (.vptr (xs.getD i.toNat .undef).cells)) := ia_sl Go.Proofs.Try.underlying31 cn35 us35
theorem ixh31 {k : IntKind} {i : Int} {id off len : Nat} {K : DV → Prop} : dindexAddr pp 31 (.hsl id 2 off len) (.int k i) K = (0 ≤ i ∧ i < len ∧ K (.ptr id (off + i.toNat * 2))) := ia_hsl Go.Proofs.Try.underlying31 cn35 us35
theorem ix38 {k : IntKind} {i : Int} {own : Bool} {xs : List DV} {K : DV → Prop} : dindexAddr pp 38 (.sl own 1 xs) (.int k i) K = (0 ≤ i ∧ i < xs.length ∧ K (.vptr (xs.getD i.toNat .undef).cells)) := ia_sl Go.Proofs.Try.underlying38 cn53 us53
theorem ixh38 {k : IntKind} {i : Int} {id off len : Nat} {K : DV → Prop} : dindexAddr pp 38 (.hsl id 1 off len) (.int k i) K = (0 ≤ i ∧ i < len ∧ K (.ptr id (off + i.toNat * 1))) := ia_hsl Go.Proofs.Try.underlying38 cn53 us53
theorem ixl45 {k : IntKind} {i : Int} {s g o : Nat} {K : DV → Prop} : dindexAddr pp 45 (.lptr s g o) (.int k i) K = (0 ≤ i ∧ i < (10 : Nat) ∧ K (.lptr s g (o + i.toNat * 1))) := ia_arrl Go.Proofs.Try.underlying45 cn4 us4
theorem ixp45 {k : IntKind} {i : Int} {id o : Nat} {K : DV → Prop} : dindexAddr pp 45 (.ptr id o) (.int k i) K = (0 ≤ i ∧ i < (10 : Nat) ∧ K (.ptr id (o + i.toNat * 1))) := ia_arrp Go.Proofs.Try.underlying45 cn4 us4
theorem ix53 {k : IntKind} {i : Int} {own : Bool} {xs : List DV} {K : DV → Prop} : dindexAddr pp 53 (.sl own 1 xs) (.int k i) K = (0 ≤ i ∧ i < xs.length ∧ K (.vptr (xs.getD i.toNat .undef).cells)) := ia_sl Go.Proofs.Try.underlying53 cn4 us4
theorem ixh53 {k : IntKind} {i : Int} {id off len : Nat} {K : DV → Prop} : dindexAddr pp 53 (.hsl id 1 off len) (.int k i) K = (0 ≤ i ∧ i < len ∧ K (.ptr id (off + i.toNat * 1))) := ia_hsl Go.Proofs.Try.underlying53 cn4 us4
theorem ix57 {k : IntKind} {i : Int} {own : Bool} {xs : List DV} {K : DV → Prop} : dindexAddr pp 57 (.sl own 1 xs) (.int k i) K = (0 ≤ i ∧ i < xs.length ∧ K (.vptr (xs.getD i.toNat .undef).cells)) := ia_sl Go.Proofs.Try.underlying57 cn3 us3
theorem ixh57 {k : IntKind} {i : Int} {id off len : Nat} {K : DV → Prop} : dindexAddr pp 57 (.hsl id 1 off len) (.int k i) K = (0 ≤ i ∧ i < len ∧ K (.ptr id (off + i.toNat * 1))) := ia_hsl Go.Proofs.Try.underlying57 cn3 us3
theorem ix77 {k : IntKind} {i : Int} {own : Bool} {xs : List DV} {K : DV → Prop} : dindexAddr pp 77 (.sl own 1 xs) (.int k i) K = (0 ≤ i ∧ i < xs.length ∧ K (.vptr (xs.getD i.toNat .undef).cells)) := ia_sl Go.Proofs.Try.underlying77 cn9 us9
theorem ixh77 {k : IntKind} {i : Int} {id off len : Nat} {K : DV → Prop} : dindexAddr pp 77 (.hsl id 1 off len) (.int k i) K = (0 ≤ i ∧ i < len ∧ K (.ptr id (off + i.toNat * 1))) := ia_hsl Go.Proofs.Try.underlying77 cn9 us9
theorem sc31 {o : Bool} {xs : List DV} {lo hi : Option DV} {K : DV → Prop} : dslice pp 31 (.sl o 2 xs) lo hi K = dbound xs.length hi xs.length fun h => dbound h lo 0 fun l => K (.sl false 2 ((xs.take h).drop l)) := sl_sl Go.Proofs.Try.underlying31 cn35 us35
theorem sch31 {id off len : Nat} {lo hi : Option DV} {K : DV → Prop} : dslice pp 31 (.hsl id 2 off len) lo hi K = dbound len hi len fun h => dbound h lo 0 fun l => K (.hsl id 2 (off + l * 2) (h - l)) := sl_hsl Go.Proofs.Try.underlying31 cn35 us35
theorem cv3_5 {st : St} {k : IntKind} {i : Int} {K : DV → Prop} : dconv pp st 3 5 (.int k i) K = K (.int .u8 (IntKind.u8.wrap i)) := cv_ii Go.Proofs.Try.underlying3 Go.Proofs.Try.underlying5
theorem cv3_87 {st : St} {k : IntKind} {i : Int} {K : DV → Prop} : dconv pp st 3 87 (.int k i) K = K (.int .u64 (IntKind.u64.wrap i)) := cv_ii Go.Proofs.Try.underlying3 Go.Proofs.Try.underlying87
theorem cv5_3 {st : St} {k : IntKind} {i : Int} {K : DV → Prop} : dconv pp st 5 3 (.int k i) K = K (.int .i64 (IntKind.i64.wrap i)) := cv_ii Go.Proofs.Try.underlying5 Go.Proofs.Try.underlying3
theorem cv22_9 {st : St} {o : Bool} {xs : List DV} {K : DV → Prop} : dconv pp st 22 9 (.sl o 1 xs) K = (∃ x, bytesOf xs = some x ∧ K (.str x)) := cv_bs Go.Proofs.Try.underlying22 Go.Proofs.Try.underlying9 Go.Proofs.Try.underlying5
theorem cv87_3 {st : St} {k : IntKind} {i : Int} {K : DV → Prop} : dconv pp st 87 3 (.int k i) K = K (.int .i64 (IntKind.i64.wrap i)) := cv_ii Go.Proofs.Try.underlying87 Go.Proofs.Try.underlying3
theorem ap24_24 {st : St} {s : Nat} {x : Operand} {own : Bool} {ys : List DV} {K : St → Prop} : appendD pp st s 24 24 x (.sl own 5 ys) K = apd 5 72 s ys (take pp st 24 x) K := ap_sl Go.Proofs.Try.underlying24 Go.Proofs.Try.underlying24 us30 (by decide) cn30 bn30 (by rw [zd30_4]; exact zo30)
theorem apo24_24 {st : St} {s : Nat} {x : Operand} {own : Bool} {ys : List DV} {K : St → Prop} : appendObjD pp st s 24 24 x (.sl own 5 ys) K = apdO 5 72 s ys (take pp st 24 x) K := ap_obj Go.Proofs.Try.underlying24 Go.Proofs.Try.underlying24 us30 (by decide) cn30 bn30 (by rw [zd30_4]; exact zo30)
theorem ap31_31 {st : St} {s : Nat} {x : Operand} {own : Bool} {ys : List DV} {K : St → Prop} : appendD pp st s 31 31 x (.sl own 2 ys) K = apd 2 32 s ys (take pp st 31 x) K := ap_sl Go.Proofs.Try.underlying31 Go.Proofs.Try.underlying31 us35 (by decide) cn35 bn35 (by rw [zd35_4]; exact zo35)
theorem apo31_31 {st : St} {s : Nat} {x : Operand} {own : Bool} {ys : List DV} {K : St → Prop} : appendObjD pp st s 31 31 x (.sl own 2 ys) K = apdO 2 32 s ys (take pp st 31 x) K := ap_obj Go.Proofs.Try.underlying31 Go.Proofs.Try.underlying31 us35 (by decide) cn35 bn35 (by rw [zd35_4]; exact zo35)
theorem ap38_38 {st : St} {s : Nat} {x : Operand} {own : Bool} {ys : List DV} {K : St → Prop} : appendD pp st s 38 38 x (.sl own 1 ys) K = apd 1 24 s ys (take pp st 38 x) K := ap_sl Go.Proofs.Try.underlying38 Go.Proofs.Try.underlying38 us53 (by decide) cn53 bn53 (by rw [zd53_4]; exact zo53)
theorem apo38_38 {st : St} {s : Nat} {x : Operand} {own : Bool} {ys : List DV} {K : St → Prop} : appendObjD pp st s 38 38 x (.sl own 1 ys) K = apdO 1 24 s ys (take pp st 38 x) K := ap_obj Go.Proofs.Try.underlying38 Go.Proofs.Try.underlying38 us53 (by decide) cn53 bn53 (by rw [zd53_4]; exact zo53)
theorem ap57_57 {st : St} {s : Nat} {x : Operand} {own : Bool} {ys : List DV} {K : St → Prop} : appendD pp st s 57 57 x (.sl own 1 ys) K = apd 1 8 s ys (take pp st 57 x) K := ap_sl Go.Proofs.Try.underlying57 Go.Proofs.Try.underlying57 us3 (by decide) cn3 bn3 (by rw [zd3_4]; exact zo3)
theorem apo57_57 {st : St} {s : Nat} {x : Operand} {own : Bool} {ys : List DV} {K : St → Prop} : appendObjD pp st s 57 57 x (.sl own 1 ys) K = apdO 1 8 s ys (take pp st 57 x) K := ap_obj Go.Proofs.Try.underlying57 Go.Proofs.Try.underlying57 us3 (by decide) cn3 bn3 (by rw [zd3_4]; exact zo3)
theorem bs22_1 {isObj : ObjT} {Γ : Env} {s : Nat} {t : TypeId} {p : String} {af : Array Edge} {g : Option (Nat × Bool)} {st : St} {K : St → Prop} {x : Operand} : dopC pp isObj Γ (hold ⟨some s, .buildSlice 22 1 #[(0, x)], t, p, af, g⟩ (tag _)) st K = bsl (isObj 22) 1 1 s [(rho pp st 5 x).ro] st K := bs_1 Go.Proofs.Try.underlying22 us5 cn5 (by decide) (by decide) zi5
theorem bs24_0 {isObj : ObjT} {Γ : Env} {s : Nat} {t : TypeId} {p : String} {af : Array Edge} {g : Option (Nat × Bool)} {st : St} {K : St → Prop} : dopC pp isObj Γ (hold ⟨some s, .buildSlice 24 0 #[], t, p, af, g⟩ (tag _)) st K = K (st.put s (.sl true 5 [])) := bs_zero Go.Proofs.Try.underlying24 us30 cn30 (by decide) zi30
theorem bs24_1 {isObj : ObjT} {Γ : Env} {s : Nat} {t : TypeId} {p : String} {af : Array Edge} {g : Option (Nat × Bool)} {st : St} {K : St → Prop} {x : Operand} : dopC pp isObj Γ (hold ⟨some s, .buildSlice 24 1 #[(0, x)], t, p, af, g⟩ (tag _)) st K = bsl (isObj 24) 5 1 s [(rho pp st 30 x).ro] st K := bs_1 Go.Proofs.Try.underlying24 us30 cn30 (by decide) (by decide) zi30
theorem bs24_2 {isObj : ObjT} {Γ : Env} {s : Nat} {t : TypeId} {p : String} {af : Array Edge} {g : Option (Nat × Bool)} {st : St} {K : St → Prop} {x y : Operand} : dopC pp isObj Γ (hold ⟨some s, .buildSlice 24 2 #[(0, x), (1, y)], t, p, af, g⟩ (tag _)) st K = bsl (isObj 24) 5 2 s [(rho pp st 30 x).ro, (rho pp st 30 y).ro] st K := bs_2 Go.Proofs.Try.underlying24 us30 cn30 (by decide) (by decide) zi30
theorem bs24_3 {isObj : ObjT} {Γ : Env} {s : Nat} {t : TypeId} {p : String} {af : Array Edge} {g : Option (Nat × Bool)} {st : St} {K : St → Prop} {x y z : Operand} : dopC pp isObj Γ (hold ⟨some s, .buildSlice 24 3 #[(0, x), (1, y), (2, z)], t, p, af, g⟩ (tag _)) st K = bsl (isObj 24) 5 3 s [(rho pp st 30 x).ro, (rho pp st 30 y).ro, (rho pp st 30 z).ro] st K := bs_3 Go.Proofs.Try.underlying24 us30 cn30 (by decide) (by decide) zi30
theorem bs27_1 {isObj : ObjT} {Γ : Env} {s : Nat} {t : TypeId} {p : String} {af : Array Edge} {g : Option (Nat × Bool)} {st : St} {K : St → Prop} {x : Operand} : dopC pp isObj Γ (hold ⟨some s, .buildSlice 27 1 #[(0, x)], t, p, af, g⟩ (tag _)) st K = bsl (isObj 27) 3 1 s [(rho pp st 26 x).ro] st K := bs_1 Go.Proofs.Try.underlying27 us26 cn26 (by decide) (by decide) zi26
theorem bs28_1 {isObj : ObjT} {Γ : Env} {s : Nat} {t : TypeId} {p : String} {af : Array Edge} {g : Option (Nat × Bool)} {st : St} {K : St → Prop} {x : Operand} : dopC pp isObj Γ (hold ⟨some s, .buildSlice 28 1 #[(0, x)], t, p, af, g⟩ (tag _)) st K = bsl (isObj 28) 5 1 s [(rho pp st 33 x).ro] st K := bs_1 Go.Proofs.Try.underlying28 us33 cn33 (by decide) (by decide) zi33
theorem bs31_1 {isObj : ObjT} {Γ : Env} {s : Nat} {t : TypeId} {p : String} {af : Array Edge} {g : Option (Nat × Bool)} {st : St} {K : St → Prop} {x : Operand} : dopC pp isObj Γ (hold ⟨some s, .buildSlice 31 1 #[(0, x)], t, p, af, g⟩ (tag _)) st K = bsl (isObj 31) 2 1 s [(rho pp st 35 x).ro] st K := bs_1 Go.Proofs.Try.underlying31 us35 cn35 (by decide) (by decide) zi35
theorem bs38_1 {isObj : ObjT} {Γ : Env} {s : Nat} {t : TypeId} {p : String} {af : Array Edge} {g : Option (Nat × Bool)} {st : St} {K : St → Prop} {x : Operand} : dopC pp isObj Γ (hold ⟨some s, .buildSlice 38 1 #[(0, x)], t, p, af, g⟩ (tag _)) st K = bsl (isObj 38) 1 1 s [(rho pp st 53 x).ro] st K := bs_1 Go.Proofs.Try.underlying38 us53 cn53 (by decide) (by decide) zi53
theorem bs57_1 {isObj : ObjT} {Γ : Env} {s : Nat} {t : TypeId} {p : String} {af : Array Edge} {g : Option (Nat × Bool)} {st : St} {K : St → Prop} {x : Operand} : dopC pp isObj Γ (hold ⟨some s, .buildSlice 57 1 #[(0, x)], t, p, af, g⟩ (tag _)) st K = bsl (isObj 57) 1 1 s [(rho pp st 3 x).ro] st K := bs_1 Go.Proofs.Try.underlying57 us3 cn3 (by decide) (by decide) zi3
theorem bs57_2 {isObj : ObjT} {Γ : Env} {s : Nat} {t : TypeId} {p : String} {af : Array Edge} {g : Option (Nat × Bool)} {st : St} {K : St → Prop} {x y : Operand} : dopC pp isObj Γ (hold ⟨some s, .buildSlice 57 2 #[(0, x), (1, y)], t, p, af, g⟩ (tag _)) st K = bsl (isObj 57) 1 2 s [(rho pp st 3 x).ro, (rho pp st 3 y).ro] st K := bs_2 Go.Proofs.Try.underlying57 us3 cn3 (by decide) (by decide) zi3
noncomputable def fs26 : Array Field := match pp.underlying 26 with | some (.struct fs) => fs | _ => #[]
theorem bd26 {isObj : ObjT} {Γ : Env} {s : Nat} {t : TypeId} {p : String} {af : Array Edge} {g : Option (Nat × Bool)} {parts : List (Nat × Operand)} {st : St} {K : St → Prop} : dopC pp isObj Γ (hold ⟨some s, .build 26 parts.toArray, t, p, af, g⟩ (tag _)) st K = buildD pp fs26 parts [.str [], .bool false, .str []] (st.put s .undef) (hold (fun cs st' => K (st'.put s (.agg cs))) (tag _)) := o_bd (by kernel_rfl) ia26 zd26_6 zo26 (by kernel_rfl)
theorem bq26 {dst : Option Nat} {t : TypeId} {p : String} {af : Array Edge} {g : Option (Nat × Bool)} {parts : List (Nat × Operand)} {st : St} {K : DV → Prop} : dq pp (hold ⟨dst, .build 26 parts.toArray, t, p, af, g⟩ (tag _)) st K = buildQ pp fs26 st parts (([.str [], .bool false, .str []] : List DV).map DV.ro1) fun cs => K (.agg (cs.map DV.ro1)) := q_bd (by kernel_rfl) ia26 zd26_6 zo26 (by kernel_rfl)
theorem bd26_0 {st : St} {cs : List DV} {x : Operand} {r : List (Nat × Operand)} {F : List DV → St → Prop} : buildD pp fs26 ((0, x) :: r) cs st F = bdk 0 1 cs (take pp st 9 x) (hold (fun cs st => buildD pp fs26 r cs st F) (tag _)) := bd_cons (by kernel_rfl) cn9
theorem bq26_0 {st : St} {cs : List DV} {x : Operand} {r : List (Nat × Operand)} {F : List DV → Prop} : buildQ pp fs26 st ((0, x) :: r) cs F = bqk 0 1 cs (rho pp st 9 x) (fun cs => buildQ pp fs26 st r cs F) := bq_cons (by kernel_rfl) cn9
theorem bd26_1 {st : St} {cs : List DV} {x : Operand} {r : List (Nat × Operand)} {F : List DV → St → Prop} : buildD pp fs26 ((1, x) :: r) cs st F = bdk 1 1 cs (take pp st 4 x) (hold (fun cs st => buildD pp fs26 r cs st F) (tag _)) := bd_cons (by kernel_rfl) cn4
theorem bq26_1 {st : St} {cs : List DV} {x : Operand} {r : List (Nat × Operand)} {F : List DV → Prop} : buildQ pp fs26 st ((1, x) :: r) cs F = bqk 1 1 cs (rho pp st 4 x) (fun cs => buildQ pp fs26 st r cs F) := bq_cons (by kernel_rfl) cn4
theorem bd26_2 {st : St} {cs : List DV} {x : Operand} {r : List (Nat × Operand)} {F : List DV → St → Prop} : buildD pp fs26 ((2, x) :: r) cs st F = bdk 2 1 cs (take pp st 9 x) (hold (fun cs st => buildD pp fs26 r cs st F) (tag _)) := bd_cons (by kernel_rfl) cn9
theorem bq26_2 {st : St} {cs : List DV} {x : Operand} {r : List (Nat × Operand)} {F : List DV → Prop} : buildQ pp fs26 st ((2, x) :: r) cs F = bqk 2 1 cs (rho pp st 9 x) (fun cs => buildQ pp fs26 st r cs F) := bq_cons (by kernel_rfl) cn9
noncomputable def fs30 : Array Field := match pp.underlying 30 with | some (.struct fs) => fs | _ => #[]
theorem bd30 {isObj : ObjT} {Γ : Env} {s : Nat} {t : TypeId} {p : String} {af : Array Edge} {g : Option (Nat × Bool)} {parts : List (Nat × Operand)} {st : St} {K : St → Prop} : dopC pp isObj Γ (hold ⟨some s, .build 30 parts.toArray, t, p, af, g⟩ (tag _)) st K = buildD pp fs30 parts [.int .i64 0, .int .i64 0, .int .i64 0, .sl true 5 [], .sl true 3 []] (st.put s .undef) (hold (fun cs st' => K (st'.put s (.agg cs))) (tag _)) := o_bd (by kernel_rfl) ia30 zd30_6 zo30 (by kernel_rfl)
theorem bq30 {dst : Option Nat} {t : TypeId} {p : String} {af : Array Edge} {g : Option (Nat × Bool)} {parts : List (Nat × Operand)} {st : St} {K : DV → Prop} : dq pp (hold ⟨dst, .build 30 parts.toArray, t, p, af, g⟩ (tag _)) st K = buildQ pp fs30 st parts (([.int .i64 0, .int .i64 0, .int .i64 0, .sl true 5 [], .sl true 3 []] : List DV).map DV.ro1) fun cs => K (.agg (cs.map DV.ro1)) := q_bd (by kernel_rfl) ia30 zd30_6 zo30 (by kernel_rfl)
theorem bd30_0 {st : St} {cs : List DV} {x : Operand} {r : List (Nat × Operand)} {F : List DV → St → Prop} : buildD pp fs30 ((0, x) :: r) cs st F = bdk 0 1 cs (take pp st 3 x) (hold (fun cs st => buildD pp fs30 r cs st F) (tag _)) := bd_cons (by kernel_rfl) cn3
theorem bq30_0 {st : St} {cs : List DV} {x : Operand} {r : List (Nat × Operand)} {F : List DV → Prop} : buildQ pp fs30 st ((0, x) :: r) cs F = bqk 0 1 cs (rho pp st 3 x) (fun cs => buildQ pp fs30 st r cs F) := bq_cons (by kernel_rfl) cn3
theorem bd30_1 {st : St} {cs : List DV} {x : Operand} {r : List (Nat × Operand)} {F : List DV → St → Prop} : buildD pp fs30 ((1, x) :: r) cs st F = bdk 1 1 cs (take pp st 3 x) (hold (fun cs st => buildD pp fs30 r cs st F) (tag _)) := bd_cons (by kernel_rfl) cn3
theorem bq30_1 {st : St} {cs : List DV} {x : Operand} {r : List (Nat × Operand)} {F : List DV → Prop} : buildQ pp fs30 st ((1, x) :: r) cs F = bqk 1 1 cs (rho pp st 3 x) (fun cs => buildQ pp fs30 st r cs F) := bq_cons (by kernel_rfl) cn3
theorem bd30_2 {st : St} {cs : List DV} {x : Operand} {r : List (Nat × Operand)} {F : List DV → St → Prop} : buildD pp fs30 ((2, x) :: r) cs st F = bdk 2 1 cs (take pp st 3 x) (hold (fun cs st => buildD pp fs30 r cs st F) (tag _)) := bd_cons (by kernel_rfl) cn3
theorem bq30_2 {st : St} {cs : List DV} {x : Operand} {r : List (Nat × Operand)} {F : List DV → Prop} : buildQ pp fs30 st ((2, x) :: r) cs F = bqk 2 1 cs (rho pp st 3 x) (fun cs => buildQ pp fs30 st r cs F) := bq_cons (by kernel_rfl) cn3
theorem bd30_3 {st : St} {cs : List DV} {x : Operand} {r : List (Nat × Operand)} {F : List DV → St → Prop} : buildD pp fs30 ((3, x) :: r) cs st F = bdk 3 1 cs (take pp st 28 x) (hold (fun cs st => buildD pp fs30 r cs st F) (tag _)) := bd_cons (by kernel_rfl) cn28
theorem bq30_3 {st : St} {cs : List DV} {x : Operand} {r : List (Nat × Operand)} {F : List DV → Prop} : buildQ pp fs30 st ((3, x) :: r) cs F = bqk 3 1 cs (rho pp st 28 x) (fun cs => buildQ pp fs30 st r cs F) := bq_cons (by kernel_rfl) cn28
theorem bd30_4 {st : St} {cs : List DV} {x : Operand} {r : List (Nat × Operand)} {F : List DV → St → Prop} : buildD pp fs30 ((4, x) :: r) cs st F = bdk 4 1 cs (take pp st 27 x) (hold (fun cs st => buildD pp fs30 r cs st F) (tag _)) := bd_cons (by kernel_rfl) cn27
theorem bq30_4 {st : St} {cs : List DV} {x : Operand} {r : List (Nat × Operand)} {F : List DV → Prop} : buildQ pp fs30 st ((4, x) :: r) cs F = bqk 4 1 cs (rho pp st 27 x) (fun cs => buildQ pp fs30 st r cs F) := bq_cons (by kernel_rfl) cn27
noncomputable def fs33 : Array Field := match pp.underlying 33 with | some (.struct fs) => fs | _ => #[]
theorem bd33 {isObj : ObjT} {Γ : Env} {s : Nat} {t : TypeId} {p : String} {af : Array Edge} {g : Option (Nat × Bool)} {parts : List (Nat × Operand)} {st : St} {K : St → Prop} : dopC pp isObj Γ (hold ⟨some s, .build 33 parts.toArray, t, p, af, g⟩ (tag _)) st K = buildD pp fs33 parts [.int .i64 0, .bool false, .str [], .str [], .sl true 2 []] (st.put s .undef) (hold (fun cs st' => K (st'.put s (.agg cs))) (tag _)) := o_bd (by kernel_rfl) ia33 zd33_6 zo33 (by kernel_rfl)
theorem bq33 {dst : Option Nat} {t : TypeId} {p : String} {af : Array Edge} {g : Option (Nat × Bool)} {parts : List (Nat × Operand)} {st : St} {K : DV → Prop} : dq pp (hold ⟨dst, .build 33 parts.toArray, t, p, af, g⟩ (tag _)) st K = buildQ pp fs33 st parts (([.int .i64 0, .bool false, .str [], .str [], .sl true 2 []] : List DV).map DV.ro1) fun cs => K (.agg (cs.map DV.ro1)) := q_bd (by kernel_rfl) ia33 zd33_6 zo33 (by kernel_rfl)
theorem bd33_0 {st : St} {cs : List DV} {x : Operand} {r : List (Nat × Operand)} {F : List DV → St → Prop} : buildD pp fs33 ((0, x) :: r) cs st F = bdk 0 1 cs (take pp st 3 x) (hold (fun cs st => buildD pp fs33 r cs st F) (tag _)) := bd_cons (by kernel_rfl) cn3
theorem bq33_0 {st : St} {cs : List DV} {x : Operand} {r : List (Nat × Operand)} {F : List DV → Prop} : buildQ pp fs33 st ((0, x) :: r) cs F = bqk 0 1 cs (rho pp st 3 x) (fun cs => buildQ pp fs33 st r cs F) := bq_cons (by kernel_rfl) cn3
theorem bd33_1 {st : St} {cs : List DV} {x : Operand} {r : List (Nat × Operand)} {F : List DV → St → Prop} : buildD pp fs33 ((1, x) :: r) cs st F = bdk 1 1 cs (take pp st 4 x) (hold (fun cs st => buildD pp fs33 r cs st F) (tag _)) := bd_cons (by kernel_rfl) cn4
theorem bq33_1 {st : St} {cs : List DV} {x : Operand} {r : List (Nat × Operand)} {F : List DV → Prop} : buildQ pp fs33 st ((1, x) :: r) cs F = bqk 1 1 cs (rho pp st 4 x) (fun cs => buildQ pp fs33 st r cs F) := bq_cons (by kernel_rfl) cn4
theorem bd33_2 {st : St} {cs : List DV} {x : Operand} {r : List (Nat × Operand)} {F : List DV → St → Prop} : buildD pp fs33 ((2, x) :: r) cs st F = bdk 2 1 cs (take pp st 9 x) (hold (fun cs st => buildD pp fs33 r cs st F) (tag _)) := bd_cons (by kernel_rfl) cn9
theorem bq33_2 {st : St} {cs : List DV} {x : Operand} {r : List (Nat × Operand)} {F : List DV → Prop} : buildQ pp fs33 st ((2, x) :: r) cs F = bqk 2 1 cs (rho pp st 9 x) (fun cs => buildQ pp fs33 st r cs F) := bq_cons (by kernel_rfl) cn9
theorem bd33_3 {st : St} {cs : List DV} {x : Operand} {r : List (Nat × Operand)} {F : List DV → St → Prop} : buildD pp fs33 ((3, x) :: r) cs st F = bdk 3 1 cs (take pp st 9 x) (hold (fun cs st => buildD pp fs33 r cs st F) (tag _)) := bd_cons (by kernel_rfl) cn9
theorem bq33_3 {st : St} {cs : List DV} {x : Operand} {r : List (Nat × Operand)} {F : List DV → Prop} : buildQ pp fs33 st ((3, x) :: r) cs F = bqk 3 1 cs (rho pp st 9 x) (fun cs => buildQ pp fs33 st r cs F) := bq_cons (by kernel_rfl) cn9
theorem bd33_4 {st : St} {cs : List DV} {x : Operand} {r : List (Nat × Operand)} {F : List DV → St → Prop} : buildD pp fs33 ((4, x) :: r) cs st F = bdk 4 1 cs (take pp st 31 x) (hold (fun cs st => buildD pp fs33 r cs st F) (tag _)) := bd_cons (by kernel_rfl) cn31
theorem bq33_4 {st : St} {cs : List DV} {x : Operand} {r : List (Nat × Operand)} {F : List DV → Prop} : buildQ pp fs33 st ((4, x) :: r) cs F = bqk 4 1 cs (rho pp st 31 x) (fun cs => buildQ pp fs33 st r cs F) := bq_cons (by kernel_rfl) cn31
noncomputable def fs35 : Array Field := match pp.underlying 35 with | some (.struct fs) => fs | _ => #[]
theorem bd35 {isObj : ObjT} {Γ : Env} {s : Nat} {t : TypeId} {p : String} {af : Array Edge} {g : Option (Nat × Bool)} {parts : List (Nat × Operand)} {st : St} {K : St → Prop} : dopC pp isObj Γ (hold ⟨some s, .build 35 parts.toArray, t, p, af, g⟩ (tag _)) st K = buildD pp fs35 parts [.str [], .str []] (st.put s .undef) (hold (fun cs st' => K (st'.put s (.agg cs))) (tag _)) := o_bd (by kernel_rfl) ia35 zd35_6 zo35 (by kernel_rfl)
theorem bq35 {dst : Option Nat} {t : TypeId} {p : String} {af : Array Edge} {g : Option (Nat × Bool)} {parts : List (Nat × Operand)} {st : St} {K : DV → Prop} : dq pp (hold ⟨dst, .build 35 parts.toArray, t, p, af, g⟩ (tag _)) st K = buildQ pp fs35 st parts (([.str [], .str []] : List DV).map DV.ro1) fun cs => K (.agg (cs.map DV.ro1)) := q_bd (by kernel_rfl) ia35 zd35_6 zo35 (by kernel_rfl)
theorem bd35_0 {st : St} {cs : List DV} {x : Operand} {r : List (Nat × Operand)} {F : List DV → St → Prop} : buildD pp fs35 ((0, x) :: r) cs st F = bdk 0 1 cs (take pp st 9 x) (hold (fun cs st => buildD pp fs35 r cs st F) (tag _)) := bd_cons (by kernel_rfl) cn9
theorem bq35_0 {st : St} {cs : List DV} {x : Operand} {r : List (Nat × Operand)} {F : List DV → Prop} : buildQ pp fs35 st ((0, x) :: r) cs F = bqk 0 1 cs (rho pp st 9 x) (fun cs => buildQ pp fs35 st r cs F) := bq_cons (by kernel_rfl) cn9
theorem bd35_1 {st : St} {cs : List DV} {x : Operand} {r : List (Nat × Operand)} {F : List DV → St → Prop} : buildD pp fs35 ((1, x) :: r) cs st F = bdk 1 1 cs (take pp st 9 x) (hold (fun cs st => buildD pp fs35 r cs st F) (tag _)) := bd_cons (by kernel_rfl) cn9
theorem bq35_1 {st : St} {cs : List DV} {x : Operand} {r : List (Nat × Operand)} {F : List DV → Prop} : buildQ pp fs35 st ((1, x) :: r) cs F = bqk 1 1 cs (rho pp st 9 x) (fun cs => buildQ pp fs35 st r cs F) := bq_cons (by kernel_rfl) cn9
noncomputable def fs40 : Array Field := match pp.underlying 40 with | some (.struct fs) => fs | _ => #[]
theorem bd40 {isObj : ObjT} {Γ : Env} {s : Nat} {t : TypeId} {p : String} {af : Array Edge} {g : Option (Nat × Bool)} {parts : List (Nat × Operand)} {st : St} {K : St → Prop} : dopC pp isObj Γ (hold ⟨some s, .build 40 parts.toArray, t, p, af, g⟩ (tag _)) st K = buildD pp fs40 parts [.sl true 1 []] (st.put s .undef) (hold (fun cs st' => K (st'.put s (.agg cs))) (tag _)) := o_bd (by kernel_rfl) ia40 zd40_6 zo40 (by kernel_rfl)
theorem bq40 {dst : Option Nat} {t : TypeId} {p : String} {af : Array Edge} {g : Option (Nat × Bool)} {parts : List (Nat × Operand)} {st : St} {K : DV → Prop} : dq pp (hold ⟨dst, .build 40 parts.toArray, t, p, af, g⟩ (tag _)) st K = buildQ pp fs40 st parts (([.sl true 1 []] : List DV).map DV.ro1) fun cs => K (.agg (cs.map DV.ro1)) := q_bd (by kernel_rfl) ia40 zd40_6 zo40 (by kernel_rfl)
theorem bd40_0 {st : St} {cs : List DV} {x : Operand} {r : List (Nat × Operand)} {F : List DV → St → Prop} : buildD pp fs40 ((0, x) :: r) cs st F = bdk 0 1 cs (take pp st 38 x) (hold (fun cs st => buildD pp fs40 r cs st F) (tag _)) := bd_cons (by kernel_rfl) cn38
theorem bq40_0 {st : St} {cs : List DV} {x : Operand} {r : List (Nat × Operand)} {F : List DV → Prop} : buildQ pp fs40 st ((0, x) :: r) cs F = bqk 0 1 cs (rho pp st 38 x) (fun cs => buildQ pp fs40 st r cs F) := bq_cons (by kernel_rfl) cn38
noncomputable def fe26 : List Field := (pp.fieldsOf 26).toList
theorem eg26 {a0 b0 : List UInt8} {a1 b1 : Bool} {a2 b2 : List UInt8} : eqAgg pp (pp.fieldsOf 26).toList [.str a0, .bool a1, .str a2] [.str b0, .bool b1, .str b2] = some (decide (a0 = b0) && ((a1 == b1) && (decide (a2 = b2) && true))) := by
  have h : (pp.fieldsOf 26).toList = (match pp.underlying 26 with | some (.struct fs) => fs.toList | _ => []) := by kernel_rfl
  rw [h, Go.Proofs.Try.underlying26]
  simp [eqAgg, Go.Proofs.Try.underlying4, Go.Proofs.Try.underlying9]
theorem eeql26 {a0 b0 : List UInt8} {a1 b1 : Bool} {a2 b2 : List UInt8} {K : DV → Prop} : dbin pp .eql 26 (.agg [.str a0, .bool a1, .str a2]) (.agg [.str b0, .bool b1, .str b2]) K = K (.bool ((decide (a0 = b0) && ((a1 == b1) && (decide (a2 = b2) && true))))) := ag_eql (by kernel_rfl) (by kernel_rfl) (by kernel_rfl) eg26
theorem eneq26 {a0 b0 : List UInt8} {a1 b1 : Bool} {a2 b2 : List UInt8} {K : DV → Prop} : dbin pp .neq 26 (.agg [.str a0, .bool a1, .str a2]) (.agg [.str b0, .bool b1, .str b2]) K = K (.bool (!(decide (a0 = b0) && ((a1 == b1) && (decide (a2 = b2) && true))))) := ag_neq (by kernel_rfl) (by kernel_rfl) (by kernel_rfl) eg26
noncomputable def fe35 : List Field := (pp.fieldsOf 35).toList
theorem eg35 {a0 b0 : List UInt8} {a1 b1 : List UInt8} : eqAgg pp (pp.fieldsOf 35).toList [.str a0, .str a1] [.str b0, .str b1] = some (decide (a0 = b0) && (decide (a1 = b1) && true)) := by
  have h : (pp.fieldsOf 35).toList = (match pp.underlying 35 with | some (.struct fs) => fs.toList | _ => []) := by kernel_rfl
  rw [h, Go.Proofs.Try.underlying35]
  simp [eqAgg, Go.Proofs.Try.underlying9]
theorem eeql35 {a0 b0 : List UInt8} {a1 b1 : List UInt8} {K : DV → Prop} : dbin pp .eql 35 (.agg [.str a0, .str a1]) (.agg [.str b0, .str b1]) K = K (.bool ((decide (a0 = b0) && (decide (a1 = b1) && true)))) := ag_eql (by kernel_rfl) (by kernel_rfl) (by kernel_rfl) eg35
theorem eneq35 {a0 b0 : List UInt8} {a1 b1 : List UInt8} {K : DV → Prop} : dbin pp .neq 35 (.agg [.str a0, .str a1]) (.agg [.str b0, .str b1]) K = K (.bool (!(decide (a0 = b0) && (decide (a1 = b1) && true)))) := ag_neq (by kernel_rfl) (by kernel_rfl) (by kernel_rfl) eg35
theorem lt68 {r : Option DV} {K : DV → Prop} : lookFin pp 68 true K r = K (.tup [(r.map DV.ro).getD (.nilmap), .bool r.isSome]) := lfin_t (by rw [zd68_4]; exact zo68) (by rw [zd68_4, oc68]; rfl)
theorem lf68 {r : Option DV} {K : DV → Prop} : lookFin pp 68 false K r = K ((r.map DV.ro).getD (.nilmap)) := lfin_f (by rw [zd68_4]; exact zo68) (by rw [zd68_4, oc68]; rfl)
theorem kt3 {i : Int} : keyT pp 3 (.int .i64 i) = True := kt_int Go.Proofs.Try.underlying3
theorem lt9 {r : Option DV} {K : DV → Prop} : lookFin pp 9 true K r = K (.tup [(r.map DV.ro).getD (.str []), .bool r.isSome]) := lfin_t (by rw [zd9_4]; exact zo9) (by rw [zd9_4, oc9]; rfl)
theorem lf9 {r : Option DV} {K : DV → Prop} : lookFin pp 9 false K r = K ((r.map DV.ro).getD (.str [])) := lfin_f (by rw [zd9_4]; exact zo9) (by rw [zd9_4, oc9]; rfl)
theorem kt9 {s : List UInt8} : keyT pp 9 (.str s) = True := keyT_str Go.Proofs.Try.underlying9
theorem mb53 {isObj : ObjT} {Γ : Env} {s : Nat} {t : TypeId} {p : String} {af : Array Edge} {g : Option (Nat × Bool)} {st : St} {K : St → Prop} {x y : Operand} (ho : isObj 53 = true) : dopC pp isObj Γ (hold ⟨some s, .makeSlice 53 x y, t, p, af, g⟩ (tag _)) st K = mkB st s (rho pp st 3 x) (rho pp st 3 y) K := o_mb Go.Proofs.Try.underlying53 (by kernel_rfl) ho
end Go.Ab.Or
