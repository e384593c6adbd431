/- A part of the proofs that a law function returns true at every input; it has no condition of its own. -/
import Derived.Shelf.Small.Strs
import Derived.Shelf.Strings.Builder2Cap
import Derived.Shelf.LaysM
import Derived.Shelf.Strconv.Itoa3
import Derived.Shelf.Strings.Repeat
import Derived.Ground.Names2Prog
import Derived.Test.YtoebbafmopdfbaaGreatDoorProg
import Derived.Shelf.SlGeneric
import Derived.Shelf.SlIter.Nil
import Derived.Shelf.SortM.Plain
import Derived.Shelf.SortM.SortNone
import Derived.Ground.GgzProg
import Derived.Ground.SlgmProg
import Derived.Shelf.SlSortCmp.NoneTotal
import Derived.Ground.SlsfProg
import Derived.Test.YtoebbafmopdfbaaGreatDoorEnT
set_option linter.unusedSimpArgs false
set_option linter.unusedVariables false
namespace Go.Proofs
open Go.Shelf
def Tryz.lays106_ren : Go.Shelf.Ren := ⟨fun | 106 => 135 | 213 => 205 | 265 => 250 | n => n, fun | 9 => 9 | 3 => 3 | n => n, fun | n => n⟩
theorem Tryz.lays106 : Go.Proofs.Lays.n106 Tryz.prog Tryz.lays106_ren := {
  mixed := by kernel_rfl
  f106 := Tryz.func135.trans (congrArg some (by kernel_rfl))
  f213 := Tryz.func205.trans (congrArg some (by kernel_rfl))
  f265 := Tryz.func250.trans (congrArg some (by kernel_rfl))
  t3 := Tryz.underlying3
  a3 := Tryz.isAgg3
  z3 := Tryz.sizeOf3
  v3 := Tryz.zeroValue3
  t9 := Tryz.underlying9
  a9 := Tryz.isAgg9
  z9 := Tryz.sizeOf9
  v9 := Tryz.zeroValue9 }
open Go.RowKit in
/-- strings.Compare: "Compare returns an integer comparing two strings lexicographically. The result will be 0 if a == b, -1 if a < b, and +1 if a > b.": IT RETURNS 'Lib.compareBytes a b'; the world is as it was. (LAID: no walk: one application.) -/
theorem Tryz.strings_Compare (a b : ByteArray) (w : World) :
    Calls Tryz.prog 135 #[.string a, .string b] w fun e w' => e = .returned (.int .i64 (Lib.compareBytes a.data.toList b.data.toList)) ∧ w' = w := Any.strings_Compare Tryz.lays106 a b w
def Tryz.lays171_ren : Go.Shelf.Ren := ⟨fun | 171 => 142 | 243 => 207 | 246 => 251 | 283 => 291 | 284 => 292 | 285 => 293 | 286 => 294 | 129 => 249 | 317 => 319 | 318 => 320 | 319 => 321 | 320 => 322 | 337 => 330 | 338 => 331 | n => n, fun | 3 => 3 | 9 => 9 | 2 => 2 | 4 => 4 | 171 => 346 | 0 => 0 | 53 => 299 | 37 => 36 | 5 => 5 | 173 => 348 | 212 => 372 | 51 => 243 | 20 => 20 | 213 => 373 | 46 => 267 | 232 => 380 | 233 => 381 | n => n, fun | 17 => 1 | 18 => 2 | 19 => 3 | n => n⟩
theorem Tryz.lays171 : Go.Proofs.Lays.n171 Tryz.prog Tryz.lays171_ren := {
  mixed := by kernel_rfl
  f129 := Tryz.func249.trans (congrArg some (by kernel_rfl))
  f171 := Tryz.func142.trans (congrArg some (by kernel_rfl))
  f243 := Tryz.func207.trans (congrArg some (by kernel_rfl))
  f246 := Tryz.func251.trans (congrArg some (by kernel_rfl))
  f283 := Tryz.func291.trans (congrArg some (by kernel_rfl))
  f284 := Tryz.func292.trans (congrArg some (by kernel_rfl))
  f285 := Tryz.func293.trans (congrArg some (by kernel_rfl))
  f286 := Tryz.func294.trans (congrArg some (by kernel_rfl))
  f317 := Tryz.func319.trans (congrArg some (by kernel_rfl))
  f318 := Tryz.func320.trans (congrArg some (by kernel_rfl))
  f319 := Tryz.func321.trans (congrArg some (by kernel_rfl))
  f320 := Tryz.func322.trans (congrArg some (by kernel_rfl))
  f337 := Tryz.func330.trans (congrArg some (by kernel_rfl))
  f338 := Tryz.func331.trans (congrArg some (by kernel_rfl))
  t0 := Tryz.underlying0
  a0 := Tryz.isAgg0
  z0 := Tryz.sizeOf0
  v0 := Tryz.zeroValue0
  t2 := Tryz.underlying2
  a2 := Tryz.isAgg2
  z2 := Tryz.sizeOf2
  v2 := Tryz.zeroValue2
  t3 := Tryz.underlying3
  a3 := Tryz.isAgg3
  z3 := Tryz.sizeOf3
  v3 := Tryz.zeroValue3
  t4 := Tryz.underlying4
  a4 := Tryz.isAgg4
  z4 := Tryz.sizeOf4
  v4 := Tryz.zeroValue4
  t5 := Tryz.underlying5
  a5 := Tryz.isAgg5
  z5 := Tryz.sizeOf5
  v5 := Tryz.zeroValue5
  t9 := Tryz.underlying9
  a9 := Tryz.isAgg9
  z9 := Tryz.sizeOf9
  v9 := Tryz.zeroValue9
  t20 := Tryz.underlying20
  a20 := Tryz.isAgg20
  z20 := Tryz.sizeOf20
  v20 := Tryz.zeroValue20
  t37 := Tryz.underlying36
  a37 := Tryz.isAgg36
  z37 := Tryz.sizeOf36
  v37 := Tryz.zeroValue36
  t46 := Tryz.underlying267
  a46 := Tryz.isAgg267
  z46 := Tryz.sizeOf267
  v46 := Tryz.zeroValue267
  t51 := Tryz.underlying243
  a51 := Tryz.isAgg243
  z51 := Tryz.sizeOf243
  v51 := Tryz.zeroValue243
  t53 := Tryz.underlying299
  a53 := Tryz.isAgg299
  z53 := Tryz.sizeOf299
  v53 := Tryz.zeroValue299
  t171 := Tryz.underlying346
  a171 := Tryz.isAgg346
  z171 := Tryz.sizeOf346
  v171 := Tryz.zeroValue346
  t173 := Tryz.underlying348
  a173 := Tryz.isAgg348
  z173 := Tryz.sizeOf348
  v173 := Tryz.zeroValue348
  t212 := Tryz.underlying372
  a212 := Tryz.isAgg372
  z212 := Tryz.sizeOf372
  v212 := Tryz.zeroValue372
  t213 := Tryz.underlying373
  a213 := Tryz.isAgg373
  z213 := Tryz.sizeOf373
  t232 := Tryz.underlying380
  a232 := Tryz.isAgg380
  z232 := Tryz.sizeOf380
  v232 := Tryz.zeroValue380
  t233 := Tryz.underlying381
  a233 := Tryz.isAgg381
  z233 := Tryz.sizeOf381
  v233 := Tryz.zeroValue381
  g17 := by kernel_rfl
  g18 := by kernel_rfl
  g19 := by kernel_rfl }
open Go.RowKit Go.Sort Go.Lib in
/-- THE ROAD WITHOUT THE TABLE: 0 <= i < 100: NO PREMISE ON THE WORLD, AND THE WORLD IS AS IT WAS: a row that keeps its argument in that range need list no table ('laid = []'). (LAID: no walk: one application.) -/
theorem Tryz.strconv_Itoa_small (i : Nat) (hi : i < 100) (w : World) :
    Calls Tryz.prog 142 #[.int .i64 i] w fun e w' => e = .returned (.string ⟨(Lib.decDigits i).toArray⟩) ∧ w' = w := Any.strconv_Itoa_small Tryz.lays171 i hi w
def Tryz.lays105_ren : Go.Shelf.Ren := ⟨fun | 105 => 143 | 212 => 208 | 99 => 180 | 165 => 209 | 166 => 210 | 170 => 211 | 169 => 212 | 263 => 252 | 264 => 253 | 206 => 231 | 240 => 254 | 241 => 255 | 276 => 295 | 277 => 296 | n => n, fun | 9 => 9 | 3 => 3 | 4 => 4 | 20 => 20 | 0 => 0 | 46 => 267 | 109 => 269 | 5 => 5 | 72 => 273 | 76 => 276 | 51 => 243 | 146 => 315 | 53 => 299 | 148 => 317 | 70 => 271 | 37 => 36 | 75 => 275 | 127 => 319 | 164 => 350 | 80 => 248 | n => n, fun | n => n⟩
theorem Tryz.lays105 : Go.Proofs.Lays.n105 Tryz.prog Tryz.lays105_ren := {
  mixed := by kernel_rfl
  f99 := Tryz.func180.trans (congrArg some (by kernel_rfl))
  f105 := Tryz.func143.trans (congrArg some (by kernel_rfl))
  f165 := Tryz.func209.trans (congrArg some (by kernel_rfl))
  f166 := Tryz.func210.trans (congrArg some (by kernel_rfl))
  f169 := Tryz.func212.trans (congrArg some (by kernel_rfl))
  f170 := Tryz.func211.trans (congrArg some (by kernel_rfl))
  f206 := Tryz.func231.trans (congrArg some (by kernel_rfl))
  f212 := Tryz.func208.trans (congrArg some (by kernel_rfl))
  f240 := Tryz.func254.trans (congrArg some (by kernel_rfl))
  f241 := Tryz.func255.trans (congrArg some (by kernel_rfl))
  f263 := Tryz.func252.trans (congrArg some (by kernel_rfl))
  f264 := Tryz.func253.trans (congrArg some (by kernel_rfl))
  f276 := Tryz.func295.trans (congrArg some (by kernel_rfl))
  f277 := Tryz.func296.trans (congrArg some (by kernel_rfl))
  t0 := Tryz.underlying0
  a0 := Tryz.isAgg0
  z0 := Tryz.sizeOf0
  v0 := Tryz.zeroValue0
  t3 := Tryz.underlying3
  a3 := Tryz.isAgg3
  z3 := Tryz.sizeOf3
  v3 := Tryz.zeroValue3
  t4 := Tryz.underlying4
  a4 := Tryz.isAgg4
  z4 := Tryz.sizeOf4
  v4 := Tryz.zeroValue4
  t5 := Tryz.underlying5
  a5 := Tryz.isAgg5
  z5 := Tryz.sizeOf5
  v5 := Tryz.zeroValue5
  t9 := Tryz.underlying9
  a9 := Tryz.isAgg9
  z9 := Tryz.sizeOf9
  v9 := Tryz.zeroValue9
  t20 := Tryz.underlying20
  a20 := Tryz.isAgg20
  z20 := Tryz.sizeOf20
  v20 := Tryz.zeroValue20
  t37 := Tryz.underlying36
  a37 := Tryz.isAgg36
  z37 := Tryz.sizeOf36
  v37 := Tryz.zeroValue36
  t46 := Tryz.underlying267
  a46 := Tryz.isAgg267
  z46 := Tryz.sizeOf267
  v46 := Tryz.zeroValue267
  t51 := Tryz.underlying243
  a51 := Tryz.isAgg243
  z51 := Tryz.sizeOf243
  v51 := Tryz.zeroValue243
  t53 := Tryz.underlying299
  a53 := Tryz.isAgg299
  z53 := Tryz.sizeOf299
  v53 := Tryz.zeroValue299
  t70 := Tryz.underlying271
  a70 := Tryz.isAgg271
  z70 := Tryz.sizeOf271
  v70 := Tryz.zeroValue271
  t72 := Tryz.underlying273
  a72 := Tryz.isAgg273
  z72 := Tryz.sizeOf273
  v72 := Tryz.zeroValue273
  t75 := Tryz.underlying275
  a75 := Tryz.isAgg275
  z75 := Tryz.sizeOf275
  v75 := Tryz.zeroValue275
  t76 := Tryz.underlying276
  a76 := Tryz.isAgg276
  z76 := Tryz.sizeOf276
  v76 := Tryz.zeroValue276
  t109 := Tryz.underlying269
  a109 := Tryz.isAgg269
  z109 := Tryz.sizeOf269
  v109 := Tryz.zeroValue269
  t127 := Tryz.underlying319
  a127 := Tryz.isAgg319
  z127 := Tryz.sizeOf319
  v127 := Tryz.zeroValue319
  t146 := Tryz.underlying315
  a146 := Tryz.isAgg315
  z146 := Tryz.sizeOf315
  v146 := Tryz.zeroValue315
  t148 := Tryz.underlying317
  a148 := Tryz.isAgg317
  z148 := Tryz.sizeOf317
  v148 := Tryz.zeroValue317
  t164 := Tryz.underlying350
  a164 := Tryz.isAgg350
  z164 := Tryz.sizeOf350
  v164 := Tryz.zeroValue350 }
theorem Tryz.Builder_Extra_105 : Builder.Extra Tryz.prog Tryz.lays105_ren := {
  sizeBuilder := by kernel_rfl
  liesBuilder := by kernel_rfl
  t5 := Tryz.underlying5
  a5 := Tryz.isAgg5
  z5 := Tryz.sizeOf5
  v5 := Tryz.zeroValue5
  infoByte := by kernel_rfl
  cellsByte := by kernel_rfl
  sizeByte := by kernel_rfl
  neB5 := by decide }
open Go.RowKit Go.Lib in
/-- **strings.Repeat: count ≥ 0, the result within one allocation: count copies of s.** (LAID: no walk: one application.) -/
theorem Tryz.strings_Repeat (s : ByteArray) (c : Nat) (w : World) (hc : c ≤ 9223372036854775807) (hlen : s.size * c ≤ 140737488355328) :
    Calls Tryz.prog 143 #[.string s, .int .i64 c] w fun e w' => e = .returned (.string ⟨(Lib.repeatL s.data.toList c).toArray⟩) ∧ Below w.heap.size w w' := Any.strings_Repeat Tryz.lays105 Tryz.Builder_Extra_105 s c w hc hlen
end Go.Proofs


namespace Go.Proofs
open Go.RowKit Go.Maps Go.Sort Go.Shelf
def Tryz.keys230_ren : Go.Shelf.Ren := ⟨fun | 7 => 230 | 10 => 275 | n => n, fun | 23 => 117 | 26 => 9 | 3 => 9 | 28 => 296 | 0 => 0 | 27 => 295 | 33 => 145 | 4 => 4 | n => n, fun | n => n⟩
theorem Tryz.keys230 : Go.Proofs.SlLaysZ.n7 Tryz.prog Tryz.keys230_ren := {
  mixed := by kernel_rfl
  f7 := ⟨Tryz.f230.name, by decide, Tryz.func230.trans (congrArg some (by kernel_rfl))⟩
  f10 := ⟨Tryz.f275.name, by decide, Tryz.func275.trans (congrArg some (by kernel_rfl))⟩
  t0 := Tryz.underlying0
  a0 := Tryz.isAgg0
  z0 := Tryz.sizeOf0
  v0 := Tryz.zeroValue0
  t4 := Tryz.underlying4
  a4 := Tryz.isAgg4
  z4 := Tryz.sizeOf4
  v4 := Tryz.zeroValue4
  t23 := Tryz.underlying117
  a23 := Tryz.isAgg117
  z23 := Tryz.sizeOf117
  v23 := Tryz.zeroValue117
  t26 := Tryz.underlying9
  a26 := Tryz.isAgg9
  z26 := Tryz.sizeOf9
  v26 := Tryz.zeroValue9
  t27 := Tryz.underlying295
  a27 := Tryz.isAgg295
  z27 := Tryz.sizeOf295
  v27 := Tryz.zeroValue295
  t28 := Tryz.underlying296
  a28 := Tryz.isAgg296
  z28 := Tryz.sizeOf296
  v28 := Tryz.zeroValue296
  t33 := Tryz.underlying145
  a33 := Tryz.isAgg145
  z33 := Tryz.sizeOf145
  v33 := Tryz.zeroValue145 }
def Tryz.sorted229_ren : Go.Shelf.Ren := ⟨fun | 6 => 229 | 8 => 274 | 9 => 226 | 11 => 314 | 13 => 204 | 12 => 273 | 23 => 248 | 24 => 249 | 14 => 305 | 15 => 306 | 16 => 307 | 17 => 308 | 18 => 309 | 19 => 310 | 20 => 311 | 21 => 312 | 22 => 313 | 25 => 326 | 26 => 287 | 27 => 288 | 28 => 327 | 29 => 328 | 30 => 219 | 31 => 332 | n => n, fun | 26 => 9 | 28 => 296 | 24 => 194 | 0 => 0 | 3 => 3 | 37 => 267 | 48 => 243 | 50 => 299 | 4 => 4 | 40 => 306 | 39 => 305 | 45 => 310 | 5 => 5 | 9 => 9 | 51 => 340 | 55 => 344 | 57 => 368 | 58 => 74 | 33 => 145 | n => n, fun | n => n⟩
theorem Tryz.sorted229 : Go.Proofs.SlLaysZ.n6 Tryz.prog Tryz.sorted229_ren := {
  mixed := by kernel_rfl
  f6 := ⟨Tryz.f229.name, by decide, Tryz.func229.trans (congrArg some (by kernel_rfl))⟩
  f8 := ⟨Tryz.f274.name, by decide, Tryz.func274.trans (congrArg some (by kernel_rfl))⟩
  f11 := ⟨Tryz.f314.name, by decide, Tryz.func314.trans (congrArg some (by kernel_rfl))⟩
  t0 := Tryz.underlying0
  a0 := Tryz.isAgg0
  z0 := Tryz.sizeOf0
  v0 := Tryz.zeroValue0
  t24 := Tryz.underlying194
  a24 := Tryz.isAgg194
  z24 := Tryz.sizeOf194
  v24 := Tryz.zeroValue194
  t26 := Tryz.underlying9
  a26 := Tryz.isAgg9
  z26 := Tryz.sizeOf9
  v26 := Tryz.zeroValue9
  t28 := Tryz.underlying296
  a28 := Tryz.isAgg296
  z28 := Tryz.sizeOf296
  v28 := Tryz.zeroValue296
  i26 := by kernel_rfl }
def Tryz.sort226_ren : Go.Shelf.Ren := ⟨fun | 6 => 226 | 8 => 204 | 9 => 273 | 19 => 248 | 20 => 249 | 21 => 305 | 22 => 306 | 23 => 307 | 24 => 308 | 25 => 309 | 26 => 310 | 27 => 311 | 28 => 312 | 29 => 313 | 36 => 326 | 31 => 287 | 32 => 288 | 37 => 327 | 38 => 328 | 39 => 219 | 41 => 332 | n => n, fun | 27 => 194 | 29 => 9 | 3 => 3 | 32 => 267 | 26 => 194 | 0 => 0 | 44 => 243 | 46 => 299 | 4 => 4 | 36 => 306 | 35 => 305 | 41 => 310 | 5 => 5 | 9 => 9 | 53 => 340 | 57 => 344 | 63 => 368 | 64 => 74 | n => n, fun | n => n⟩
theorem Tryz.sort226 : Go.Proofs.SlLaysM.n6 Tryz.prog Tryz.sort226_ren := {
  mixed := by kernel_rfl
  f6 := ⟨Tryz.f226.name, by decide, Tryz.func226.trans (congrArg some (by kernel_rfl))⟩
  f8 := Tryz.func204.trans (congrArg some (by kernel_rfl))
  f9 := ⟨Tryz.f273.name, by decide, Tryz.func273.trans (congrArg some (by kernel_rfl))⟩
  f19 := Tryz.func248.trans (congrArg some (by kernel_rfl))
  f20 := Tryz.func249.trans (congrArg some (by kernel_rfl))
  f21 := ⟨Tryz.f305.name, by decide, Tryz.func305.trans (congrArg some (by kernel_rfl))⟩
  f22 := ⟨Tryz.f306.name, by decide, Tryz.func306.trans (congrArg some (by kernel_rfl))⟩
  f23 := ⟨Tryz.f307.name, by decide, Tryz.func307.trans (congrArg some (by kernel_rfl))⟩
  f24 := ⟨Tryz.f308.name, by decide, Tryz.func308.trans (congrArg some (by kernel_rfl))⟩
  f25 := ⟨Tryz.f309.name, by decide, Tryz.func309.trans (congrArg some (by kernel_rfl))⟩
  f26 := ⟨Tryz.f310.name, by decide, Tryz.func310.trans (congrArg some (by kernel_rfl))⟩
  f27 := ⟨Tryz.f311.name, by decide, Tryz.func311.trans (congrArg some (by kernel_rfl))⟩
  f28 := ⟨Tryz.f312.name, by decide, Tryz.func312.trans (congrArg some (by kernel_rfl))⟩
  f29 := ⟨Tryz.f313.name, by decide, Tryz.func313.trans (congrArg some (by kernel_rfl))⟩
  f31 := Tryz.func287.trans (congrArg some (by kernel_rfl))
  f32 := Tryz.func288.trans (congrArg some (by kernel_rfl))
  f36 := ⟨Tryz.f326.name, by decide, Tryz.func326.trans (congrArg some (by kernel_rfl))⟩
  f37 := ⟨Tryz.f327.name, by decide, Tryz.func327.trans (congrArg some (by kernel_rfl))⟩
  f38 := ⟨Tryz.f328.name, by decide, Tryz.func328.trans (congrArg some (by kernel_rfl))⟩
  f39 := ⟨Tryz.f219.name, by decide, Tryz.func219.trans (congrArg some (by kernel_rfl))⟩
  f41 := ⟨Tryz.f332.name, by decide, Tryz.func332.trans (congrArg some (by kernel_rfl))⟩
  t0 := Tryz.underlying0
  a0 := Tryz.isAgg0
  z0 := Tryz.sizeOf0
  v0 := Tryz.zeroValue0
  t3 := Tryz.underlying3
  a3 := Tryz.isAgg3
  z3 := Tryz.sizeOf3
  v3 := Tryz.zeroValue3
  t4 := Tryz.underlying4
  a4 := Tryz.isAgg4
  z4 := Tryz.sizeOf4
  v4 := Tryz.zeroValue4
  t5 := Tryz.underlying5
  a5 := Tryz.isAgg5
  z5 := Tryz.sizeOf5
  v5 := Tryz.zeroValue5
  t9 := Tryz.underlying9
  a9 := Tryz.isAgg9
  z9 := Tryz.sizeOf9
  v9 := Tryz.zeroValue9
  t26 := Tryz.underlying194
  a26 := Tryz.isAgg194
  z26 := Tryz.sizeOf194
  v26 := Tryz.zeroValue194
  t27 := Tryz.underlying194
  a27 := Tryz.isAgg194
  z27 := Tryz.sizeOf194
  v27 := Tryz.zeroValue194
  t29 := Tryz.underlying9
  a29 := Tryz.isAgg9
  z29 := Tryz.sizeOf9
  v29 := Tryz.zeroValue9
  t32 := Tryz.underlying267
  a32 := Tryz.isAgg267
  z32 := Tryz.sizeOf267
  v32 := Tryz.zeroValue267
  t35 := Tryz.underlying305
  a35 := Tryz.isAgg305
  z35 := Tryz.sizeOf305
  v35 := Tryz.zeroValue305
  t36 := Tryz.underlying306
  a36 := Tryz.isAgg306
  z36 := Tryz.sizeOf306
  v36 := Tryz.zeroValue306
  t41 := Tryz.underlying310
  a41 := Tryz.isAgg310
  z41 := Tryz.sizeOf310
  v41 := Tryz.zeroValue310
  t44 := Tryz.underlying243
  a44 := Tryz.isAgg243
  z44 := Tryz.sizeOf243
  v44 := Tryz.zeroValue243
  t46 := Tryz.underlying299
  a46 := Tryz.isAgg299
  z46 := Tryz.sizeOf299
  v46 := Tryz.zeroValue299
  t53 := Tryz.underlying340
  a53 := Tryz.isAgg340
  z53 := Tryz.sizeOf340
  v53 := Tryz.zeroValue340
  t57 := Tryz.underlying344
  a57 := Tryz.isAgg344
  z57 := Tryz.sizeOf344
  v57 := Tryz.zeroValue344
  t63 := Tryz.underlying368
  a63 := Tryz.isAgg368
  z63 := Tryz.sizeOf368
  v63 := Tryz.zeroValue368
  t64 := Tryz.underlying74
  a64 := Tryz.isAgg74
  z64 := Tryz.sizeOf74
  v64 := Tryz.zeroValue74 }
/-- slices.Sort's two contracts at this dump, at the fence that asks nothing. -/
theorem Tryz.sorts229 (m : Nat) : AnyZ.SortsIn Tryz.prog Tryz.sorted229_ren Fence.wide m :=
  ⟨fun blk off cap ss W hH hblk hsz => callsIn_wide.2 (AnyM.slices_Sort_string Tryz.sort226 blk off cap ss W hH hblk hsz),
   fun p cap W => callsIn_wide.2 (AnyM.slices_Sort_string_none Tryz.sort226 p cap W)⟩

/-- **maps.Keys[map[string]string,string,string], at whatever map, the nil one too:** a function value over ONE NEW BLOCK, which holds the map. -/
theorem Tryz.maps_Keys_230 (mb : Option Nat) (W : World) : CallsIn Fence.wide 5 Tryz.prog 230 #[.map mb] W fun e w' => e = .returned (.func (.func 275) #[] #[.pointer (some ⟨W.heap.size, 0, none⟩)]) ∧ w' = W.alloc (.cells #[.map mb] 117) :=
  AnyZ.keys_in Tryz.keys230 Fence.wide 5 trivial rfl mb W

/-- slices.Sorted at a function value of maps.Keys' iterator, whose block holds a map that is not nil. -/
theorem Tryz.sorted_at {H : Type} (Bm b nn : Nat) (D0 : DataW H) (R : Value → Option (DataW H × List MemPlace)) (w : World) (hBm : Bm < w.heap.size) (hm : w.cell? ⟨Bm, 0, none⟩ = some (.map (some b))) (hown : w.ownsMap Tryz.prog 9 R b nn D0) (hmax : Maps.size D0 ≤ maxLen) (hbytes : Maps.size D0 * 16 ≤ 140737488355328) :
    CallsIn Fence.wide 5 Tryz.prog 229 #[.func (.func 275) #[] #[.pointer (some ⟨Bm, 0, none⟩)]] w fun e w' => ∃ (v : Value) (ss : List (List UInt8)), e = .returned v ∧ ss.Perm (strKeys D0) ∧
      w'.ownsRow w.heap.size 9 1 v ss.length ((ss.mergeSort (fun x y => decide (x ≤ y))).map encStr) ∧ (v = .slice none 0 0 ↔ ss = []) ∧ Below w.heap.size w w' := by
  have hseq : SeqGives Fence.wide 2 Tryz.prog 275 #[.pointer (some ⟨Bm, 0, none⟩)] encStr (fun ss => ss.Perm (strKeys D0)) (Maps.size D0) w :=
    AnyZ.keys_gives (ρ := Tryz.keys230_ren) { Tryz.keys230 with } Fence.wide _ trivial rfl (by omega) Bm b nn D0 _ hBm hm hown
  exact AnyZ.sorted_in Tryz.sorted229 Fence.wide 5 trivial trivial trivial trivial rfl (by omega) (Tryz.sorts229 _) (enters_of Tryz.func226 (by kernel_rfl) rfl) 275 #[.pointer (some ⟨Bm, 0, none⟩)] trivial (enters_of Tryz.func275 (by kernel_rfl) rfl) _ _ hmax hbytes _ hseq
/-- The same where it holds the nil map. -/
theorem Tryz.sorted_nil_at (Bm : Nat) (w : World) (hBm : Bm < w.heap.size) (hm : w.cell? ⟨Bm, 0, none⟩ = some (.map none)) :
    CallsIn Fence.wide 5 Tryz.prog 229 #[.func (.func 275) #[] #[.pointer (some ⟨Bm, 0, none⟩)]] w fun e w' => ∃ (v : Value) (ss : List (List UInt8)), e = .returned v ∧ ss = [] ∧
      w'.ownsRow w.heap.size 9 1 v ss.length ((ss.mergeSort (fun x y => decide (x ≤ y))).map encStr) ∧ (v = .slice none 0 0 ↔ ss = []) ∧ Below w.heap.size w w' := by
  have hseq : SeqGives Fence.wide 2 Tryz.prog 275 #[.pointer (some ⟨Bm, 0, none⟩)] encStr (fun ss : List (List UInt8) => ss = []) 0 w :=
    AnyZ.keys_gives_nil (ρ := Tryz.keys230_ren) { Tryz.keys230 with } Fence.wide _ trivial rfl Bm _ hBm hm
  exact AnyZ.sorted_in Tryz.sorted229 Fence.wide 5 trivial trivial trivial trivial rfl (by omega) (Tryz.sorts229 _) (enters_of Tryz.func226 (by kernel_rfl) rfl) 275 #[.pointer (some ⟨Bm, 0, none⟩)] trivial (enters_of Tryz.func275 (by kernel_rfl) rfl) _ 0 (Nat.zero_le _) (by omega) _ hseq
end Go.Proofs


namespace Go.Proofs
open Go.Shelf
def Tryz.sortW_lay_ren : Go.Shelf.Ren := ⟨fun | 6 => 133 | 15 => 204 | 14 => 203 | 28 => 248 | 29 => 249 | 20 => 240 | 21 => 241 | 22 => 242 | 23 => 243 | 24 => 244 | 25 => 245 | 26 => 246 | 27 => 247 | 46 => 286 | 47 => 287 | 48 => 288 | 49 => 289 | 50 => 290 | 57 => 318 | n => n, fun | 22 => 33 | 24 => 32 | 25 => 199 | 3 => 3 | 39 => 267 | 0 => 0 | 53 => 243 | 55 => 299 | 4 => 4 | 46 => 306 | 45 => 305 | 50 => 310 | 5 => 5 | 9 => 9 | 66 => 340 | 70 => 344 | 76 => 368 | 77 => 74 | n => n, fun | n => n⟩
theorem Tryz.sortW_lay : Go.Proofs.SlLaysF0.n6 Tryz.prog Tryz.sortW_lay_ren := {
  mixed := by kernel_rfl
  f6 := ⟨Tryz.f133.name, by decide, Tryz.func133.trans (congrArg some (by kernel_rfl))⟩
  f14 := ⟨Tryz.f203.name, by decide, Tryz.func203.trans (congrArg some (by kernel_rfl))⟩
  f15 := Tryz.func204.trans (congrArg some (by kernel_rfl))
  f20 := ⟨Tryz.f240.name, by decide, Tryz.func240.trans (congrArg some (by kernel_rfl))⟩
  f21 := ⟨Tryz.f241.name, by decide, Tryz.func241.trans (congrArg some (by kernel_rfl))⟩
  f22 := ⟨Tryz.f242.name, by decide, Tryz.func242.trans (congrArg some (by kernel_rfl))⟩
  f23 := ⟨Tryz.f243.name, by decide, Tryz.func243.trans (congrArg some (by kernel_rfl))⟩
  f24 := ⟨Tryz.f244.name, by decide, Tryz.func244.trans (congrArg some (by kernel_rfl))⟩
  f25 := ⟨Tryz.f245.name, by decide, Tryz.func245.trans (congrArg some (by kernel_rfl))⟩
  f26 := ⟨Tryz.f246.name, by decide, Tryz.func246.trans (congrArg some (by kernel_rfl))⟩
  f27 := ⟨Tryz.f247.name, by decide, Tryz.func247.trans (congrArg some (by kernel_rfl))⟩
  f28 := Tryz.func248.trans (congrArg some (by kernel_rfl))
  f29 := Tryz.func249.trans (congrArg some (by kernel_rfl))
  f46 := ⟨Tryz.f286.name, by decide, Tryz.func286.trans (congrArg some (by kernel_rfl))⟩
  f47 := Tryz.func287.trans (congrArg some (by kernel_rfl))
  f48 := Tryz.func288.trans (congrArg some (by kernel_rfl))
  f49 := ⟨Tryz.f289.name, by decide, Tryz.func289.trans (congrArg some (by kernel_rfl))⟩
  f50 := ⟨Tryz.f290.name, by decide, Tryz.func290.trans (congrArg some (by kernel_rfl))⟩
  f57 := ⟨Tryz.f318.name, by decide, Tryz.func318.trans (congrArg some (by kernel_rfl))⟩
  t0 := Tryz.underlying0
  a0 := Tryz.isAgg0
  z0 := Tryz.sizeOf0
  v0 := Tryz.zeroValue0
  t3 := Tryz.underlying3
  a3 := Tryz.isAgg3
  z3 := Tryz.sizeOf3
  v3 := Tryz.zeroValue3
  t4 := Tryz.underlying4
  a4 := Tryz.isAgg4
  z4 := Tryz.sizeOf4
  v4 := Tryz.zeroValue4
  t5 := Tryz.underlying5
  a5 := Tryz.isAgg5
  z5 := Tryz.sizeOf5
  v5 := Tryz.zeroValue5
  t9 := Tryz.underlying9
  a9 := Tryz.isAgg9
  z9 := Tryz.sizeOf9
  v9 := Tryz.zeroValue9
  t22 := Tryz.underlying33
  a22 := Tryz.isAgg33
  z22 := Tryz.sizeOf33
  v22 := Tryz.zeroValue33
  t25 := Tryz.underlying199
  a25 := Tryz.isAgg199
  z25 := Tryz.sizeOf199
  v25 := Tryz.zeroValue199
  t39 := Tryz.underlying267
  a39 := Tryz.isAgg267
  z39 := Tryz.sizeOf267
  v39 := Tryz.zeroValue267
  t45 := Tryz.underlying305
  a45 := Tryz.isAgg305
  z45 := Tryz.sizeOf305
  v45 := Tryz.zeroValue305
  t46 := Tryz.underlying306
  a46 := Tryz.isAgg306
  z46 := Tryz.sizeOf306
  v46 := Tryz.zeroValue306
  t50 := Tryz.underlying310
  a50 := Tryz.isAgg310
  z50 := Tryz.sizeOf310
  v50 := Tryz.zeroValue310
  t53 := Tryz.underlying243
  a53 := Tryz.isAgg243
  z53 := Tryz.sizeOf243
  v53 := Tryz.zeroValue243
  t55 := Tryz.underlying299
  a55 := Tryz.isAgg299
  z55 := Tryz.sizeOf299
  v55 := Tryz.zeroValue299
  t66 := Tryz.underlying340
  a66 := Tryz.isAgg340
  z66 := Tryz.sizeOf340
  v66 := Tryz.zeroValue340
  t70 := Tryz.underlying344
  a70 := Tryz.isAgg344
  z70 := Tryz.sizeOf344
  v70 := Tryz.zeroValue344
  t76 := Tryz.underlying368
  a76 := Tryz.isAgg368
  z76 := Tryz.sizeOf368
  v76 := Tryz.zeroValue368
  t77 := Tryz.underlying74
  a77 := Tryz.isAgg74
  z77 := Tryz.sizeOf74
  v77 := Tryz.zeroValue74 }
def Tryz.sortP_lay_ren : Go.Shelf.Ren := ⟨fun | 6 => 157 | 15 => 204 | 14 => 218 | 28 => 248 | 29 => 249 | 20 => 260 | 21 => 261 | 22 => 262 | 23 => 263 | 24 => 264 | 25 => 265 | 26 => 266 | 27 => 267 | 46 => 300 | 47 => 287 | 48 => 288 | 49 => 301 | 50 => 302 | 57 => 324 | n => n, fun | 22 => 64 | 24 => 96 | 25 => 216 | 3 => 3 | 39 => 267 | 0 => 0 | 53 => 243 | 55 => 299 | 4 => 4 | 46 => 306 | 45 => 305 | 50 => 310 | 5 => 5 | 9 => 9 | 66 => 340 | 70 => 344 | 76 => 368 | 77 => 74 | n => n, fun | n => n⟩
theorem Tryz.sortP_lay : Go.Proofs.SlLaysF0.n6 Tryz.prog Tryz.sortP_lay_ren := {
  mixed := by kernel_rfl
  f6 := ⟨Tryz.f157.name, by decide, Tryz.func157.trans (congrArg some (by kernel_rfl))⟩
  f14 := ⟨Tryz.f218.name, by decide, Tryz.func218.trans (congrArg some (by kernel_rfl))⟩
  f15 := Tryz.func204.trans (congrArg some (by kernel_rfl))
  f20 := ⟨Tryz.f260.name, by decide, Tryz.func260.trans (congrArg some (by kernel_rfl))⟩
  f21 := ⟨Tryz.f261.name, by decide, Tryz.func261.trans (congrArg some (by kernel_rfl))⟩
  f22 := ⟨Tryz.f262.name, by decide, Tryz.func262.trans (congrArg some (by kernel_rfl))⟩
  f23 := ⟨Tryz.f263.name, by decide, Tryz.func263.trans (congrArg some (by kernel_rfl))⟩
  f24 := ⟨Tryz.f264.name, by decide, Tryz.func264.trans (congrArg some (by kernel_rfl))⟩
  f25 := ⟨Tryz.f265.name, by decide, Tryz.func265.trans (congrArg some (by kernel_rfl))⟩
  f26 := ⟨Tryz.f266.name, by decide, Tryz.func266.trans (congrArg some (by kernel_rfl))⟩
  f27 := ⟨Tryz.f267.name, by decide, Tryz.func267.trans (congrArg some (by kernel_rfl))⟩
  f28 := Tryz.func248.trans (congrArg some (by kernel_rfl))
  f29 := Tryz.func249.trans (congrArg some (by kernel_rfl))
  f46 := ⟨Tryz.f300.name, by decide, Tryz.func300.trans (congrArg some (by kernel_rfl))⟩
  f47 := Tryz.func287.trans (congrArg some (by kernel_rfl))
  f48 := Tryz.func288.trans (congrArg some (by kernel_rfl))
  f49 := ⟨Tryz.f301.name, by decide, Tryz.func301.trans (congrArg some (by kernel_rfl))⟩
  f50 := ⟨Tryz.f302.name, by decide, Tryz.func302.trans (congrArg some (by kernel_rfl))⟩
  f57 := ⟨Tryz.f324.name, by decide, Tryz.func324.trans (congrArg some (by kernel_rfl))⟩
  t0 := Tryz.underlying0
  a0 := Tryz.isAgg0
  z0 := Tryz.sizeOf0
  v0 := Tryz.zeroValue0
  t3 := Tryz.underlying3
  a3 := Tryz.isAgg3
  z3 := Tryz.sizeOf3
  v3 := Tryz.zeroValue3
  t4 := Tryz.underlying4
  a4 := Tryz.isAgg4
  z4 := Tryz.sizeOf4
  v4 := Tryz.zeroValue4
  t5 := Tryz.underlying5
  a5 := Tryz.isAgg5
  z5 := Tryz.sizeOf5
  v5 := Tryz.zeroValue5
  t9 := Tryz.underlying9
  a9 := Tryz.isAgg9
  z9 := Tryz.sizeOf9
  v9 := Tryz.zeroValue9
  t22 := Tryz.underlying64
  a22 := Tryz.isAgg64
  z22 := Tryz.sizeOf64
  v22 := Tryz.zeroValue64
  t25 := Tryz.underlying216
  a25 := Tryz.isAgg216
  z25 := Tryz.sizeOf216
  v25 := Tryz.zeroValue216
  t39 := Tryz.underlying267
  a39 := Tryz.isAgg267
  z39 := Tryz.sizeOf267
  v39 := Tryz.zeroValue267
  t45 := Tryz.underlying305
  a45 := Tryz.isAgg305
  z45 := Tryz.sizeOf305
  v45 := Tryz.zeroValue305
  t46 := Tryz.underlying306
  a46 := Tryz.isAgg306
  z46 := Tryz.sizeOf306
  v46 := Tryz.zeroValue306
  t50 := Tryz.underlying310
  a50 := Tryz.isAgg310
  z50 := Tryz.sizeOf310
  v50 := Tryz.zeroValue310
  t53 := Tryz.underlying243
  a53 := Tryz.isAgg243
  z53 := Tryz.sizeOf243
  v53 := Tryz.zeroValue243
  t55 := Tryz.underlying299
  a55 := Tryz.isAgg299
  z55 := Tryz.sizeOf299
  v55 := Tryz.zeroValue299
  t66 := Tryz.underlying340
  a66 := Tryz.isAgg340
  z66 := Tryz.sizeOf340
  v66 := Tryz.zeroValue340
  t70 := Tryz.underlying344
  a70 := Tryz.isAgg344
  z70 := Tryz.sizeOf344
  v70 := Tryz.zeroValue344
  t76 := Tryz.underlying368
  a76 := Tryz.isAgg368
  z76 := Tryz.sizeOf368
  v76 := Tryz.zeroValue368
  t77 := Tryz.underlying74
  a77 := Tryz.isAgg74
  z77 := Tryz.sizeOf74
  v77 := Tryz.zeroValue74 }
end Go.Proofs
