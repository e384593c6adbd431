/- A part of the proof; no condition of its own. -/
import Derived.Test.YtoebbafmopdfbaaGreatDoorProg
import Derived.KernelRfl
import Derived.Test.YtoebbafmopdfbaaGreatDoorAcBB
set_option linter.unusedSimpArgs false
set_option linter.unusedVariables false
namespace Go.Ab.En
open Go Go.Conc Go.RowKit Go.Ab
noncomputable abbrev pp : Program:=Go.Proofs.Tryz.prog
theorem mixed : pp.follows .mixedOrders = true:=by kernel_rfl
theorem ia3 : isAggT pp 3 = false:=by kernel_rfl
theorem cn3 : pp.cellsOf 3 = 1:=by kernel_rfl
theorem us3 : (pp.underlying 3).isSome = true:=by kernel_rfl
theorem ft3 : funT pp 3 = false:=by kernel_rfl
theorem zi3 : (pp.info? 3).any (·.zero.isSome) = true:=by kernel_rfl
theorem zd3_4 : zeroDV pp 4 3 = [.int .i64 0]:=by kernel_rfl
theorem zo3 : zeroOk pp 3 [.int .i64 0] = true:=by kernel_rfl
theorem oc3 : ofCells pp 3 [.int .i64 0] = (.int .i64 0):=by simp [ofCells,ia3]
theorem la3 {c : DV} {r : List DV} {K : DV→Prop} : loadAs pp 3 (c :: r) K = K c.ro:=la_cell ia3 us3
theorem ia4 : isAggT pp 4 = false:=by kernel_rfl
theorem cn4 : pp.cellsOf 4 = 1:=by kernel_rfl
theorem us4 : (pp.underlying 4).isSome = true:=by kernel_rfl
theorem la4 {c : DV} {r : List DV} {K : DV→Prop} : loadAs pp 4 (c :: r) K = K c.ro:=la_cell ia4 us4
theorem ia5 : isAggT pp 5 = false:=by kernel_rfl
theorem cn5 : pp.cellsOf 5 = 1:=by kernel_rfl
theorem us5 : (pp.underlying 5).isSome = true:=by kernel_rfl
theorem bn5 : pp.bytesOf 5 = 1:=by kernel_rfl
theorem zi5 : (pp.info? 5).any (·.zero.isSome) = true:=by kernel_rfl
theorem zd5_4 : zeroDV pp 4 5 = [.int .u8 0]:=by kernel_rfl
theorem zo5 : zeroOk pp 5 [.int .u8 0] = true:=by kernel_rfl
theorem la5 {c : DV} {r : List DV} {K : DV→Prop} : loadAs pp 5 (c :: r) K = K c.ro:=la_cell ia5 us5
theorem ia9 : isAggT pp 9 = false:=by kernel_rfl
theorem cn9 : pp.cellsOf 9 = 1:=by kernel_rfl
theorem us9 : (pp.underlying 9).isSome = true:=by kernel_rfl
theorem zd9_4 : zeroDV pp 4 9 = [.str []]:=by kernel_rfl
theorem zo9 : zeroOk pp 9 [.str []] = true:=by kernel_rfl
theorem oc9 : ofCells pp 9 [.str []] = (.str []):=by simp [ofCells,ia9]
theorem la9 {c : DV} {r : List DV} {K : DV→Prop} : loadAs pp 9 (c :: r) K = K c.ro:=la_cell ia9 us9
theorem ia23 : isAggT pp 23 = false:=by kernel_rfl
theorem cn23 : pp.cellsOf 23 = 1:=by kernel_rfl
theorem us23 : (pp.underlying 23).isSome = true:=by kernel_rfl
theorem la23 {c : DV} {r : List DV} {K : DV→Prop} : loadAs pp 23 (c :: r) K = K c.ro:=la_cell ia23 us23
theorem ia24 : isAggT pp 24 = false:=by kernel_rfl
theorem cn24 : pp.cellsOf 24 = 1:=by kernel_rfl
theorem us24 : (pp.underlying 24).isSome = true:=by kernel_rfl
theorem bn24 : pp.bytesOf 24 = 8:=by kernel_rfl
theorem zi24 : (pp.info? 24).any (·.zero.isSome) = true:=by kernel_rfl
theorem zd24_4 : zeroDV pp 4 24 = [.int .i64 0]:=by kernel_rfl
theorem zo24 : zeroOk pp 24 [.int .i64 0] = true:=by kernel_rfl
theorem la24 {c : DV} {r : List DV} {K : DV→Prop} : loadAs pp 24 (c :: r) K = K c.ro:=la_cell ia24 us24
theorem ia27 : isAggT pp 27 = false:=by kernel_rfl
theorem cn27 : pp.cellsOf 27 = 1:=by kernel_rfl
theorem us27 : (pp.underlying 27).isSome = true:=by kernel_rfl
theorem la27 {c : DV} {r : List DV} {K : DV→Prop} : loadAs pp 27 (c :: r) K = K c.ro:=la_cell ia27 us27
theorem ia32 : isAggT pp 32 = true:=by kernel_rfl
theorem cn32 : pp.cellsOf 32 = 3:=by kernel_rfl
theorem us32 : (pp.underlying 32).isSome = true:=by kernel_rfl
theorem ft32 : funT pp 32 = false:=by kernel_rfl
theorem bn32 : pp.bytesOf 32 = 40:=by kernel_rfl
theorem zi32 : (pp.info? 32).any (·.zero.isSome) = true:=by kernel_rfl
theorem zd32_4 : zeroDV pp 4 32 = [.str [],.bool false,.str []]:=by kernel_rfl
theorem zo32 : zeroOk pp 32 [.str [],.bool false,.str []] = true:=by kernel_rfl
theorem oc32 : ofCells pp 32 [.str [],.bool false,.str []] = (.agg [.str [],.bool false,.str []]):=by simp [ofCells,ia32]
theorem la32 {cs : List DV} {K : DV→Prop} : loadAs pp 32 cs K = (3≤cs.length∧K (.agg ((cs.take 3).map DV.ro1))):=by rw [la_agg ia32,cn32]
theorem ia33 : isAggT pp 33 = false:=by kernel_rfl
theorem cn33 : pp.cellsOf 33 = 1:=by kernel_rfl
theorem us33 : (pp.underlying 33).isSome = true:=by kernel_rfl
theorem la33 {c : DV} {r : List DV} {K : DV→Prop} : loadAs pp 33 (c :: r) K = K c.ro:=la_cell ia33 us33
theorem ia34 : isAggT pp 34 = false:=by kernel_rfl
theorem cn34 : pp.cellsOf 34 = 1:=by kernel_rfl
theorem us34 : (pp.underlying 34).isSome = true:=by kernel_rfl
theorem la34 {c : DV} {r : List DV} {K : DV→Prop} : loadAs pp 34 (c :: r) K = K c.ro:=la_cell ia34 us34
theorem ia64 : isAggT pp 64 = false:=by kernel_rfl
theorem cn64 : pp.cellsOf 64 = 1:=by kernel_rfl
theorem us64 : (pp.underlying 64).isSome = true:=by kernel_rfl
theorem la64 {c : DV} {r : List DV} {K : DV→Prop} : loadAs pp 64 (c :: r) K = K c.ro:=la_cell ia64 us64
theorem ia67 : isAggT pp 67 = false:=by kernel_rfl
theorem cn67 : pp.cellsOf 67 = 1:=by kernel_rfl
theorem us67 : (pp.underlying 67).isSome = true:=by kernel_rfl
theorem la67 {c : DV} {r : List DV} {K : DV→Prop} : loadAs pp 67 (c :: r) K = K c.ro:=la_cell ia67 us67
theorem ia96 : isAggT pp 96 = true:=by kernel_rfl
theorem cn96 : pp.cellsOf 96 = 2:=by kernel_rfl
theorem us96 : (pp.underlying 96).isSome = true:=by kernel_rfl
theorem bn96 : pp.bytesOf 96 = 32:=by kernel_rfl
theorem zi96 : (pp.info? 96).any (·.zero.isSome) = true:=by kernel_rfl
theorem zd96_4 : zeroDV pp 4 96 = [.str [],.str []]:=by kernel_rfl
theorem zo96 : zeroOk pp 96 [.str [],.str []] = true:=by kernel_rfl
theorem la96 {cs : List DV} {K : DV→Prop} : loadAs pp 96 cs K = (2≤cs.length∧K (.agg ((cs.take 2).map DV.ro1))):=by rw [la_agg ia96,cn96]
theorem ia99 : isAggT pp 99 = false:=by kernel_rfl
theorem cn99 : pp.cellsOf 99 = 1:=by kernel_rfl
theorem us99 : (pp.underlying 99).isSome = true:=by kernel_rfl
theorem la99 {c : DV} {r : List DV} {K : DV→Prop} : loadAs pp 99 (c :: r) K = K c.ro:=la_cell ia99 us99
theorem ia106 : isAggT pp 106 = false:=by kernel_rfl
theorem cn106 : pp.cellsOf 106 = 1:=by kernel_rfl
theorem us106 : (pp.underlying 106).isSome = true:=by kernel_rfl
theorem la106 {c : DV} {r : List DV} {K : DV→Prop} : loadAs pp 106 (c :: r) K = K c.ro:=la_cell ia106 us106
theorem cn109 : pp.cellsOf 109 = 1:=by kernel_rfl
theorem ia110 : isAggT pp 110 = false:=by kernel_rfl
theorem cn110 : pp.cellsOf 110 = 1:=by kernel_rfl
theorem us110 : (pp.underlying 110).isSome = true:=by kernel_rfl
theorem la110 {c : DV} {r : List DV} {K : DV→Prop} : loadAs pp 110 (c :: r) K = K c.ro:=la_cell ia110 us110
theorem ia112 : isAggT pp 112 = false:=by kernel_rfl
theorem cn112 : pp.cellsOf 112 = 1:=by kernel_rfl
theorem us112 : (pp.underlying 112).isSome = true:=by kernel_rfl
theorem la112 {c : DV} {r : List DV} {K : DV→Prop} : loadAs pp 112 (c :: r) K = K c.ro:=la_cell ia112 us112
theorem ia114 : isAggT pp 114 = true:=by kernel_rfl
theorem zo114 : zeroOk pp 114 [.nilp,.nilp,.nilmap,.nilp,.int .i64 0,.int .i64 0,.nilmap] = true:=by kernel_rfl
theorem ia117 : isAggT pp 117 = false:=by kernel_rfl
theorem cn117 : pp.cellsOf 117 = 1:=by kernel_rfl
theorem us117 : (pp.underlying 117).isSome = true:=by kernel_rfl
theorem la117 {c : DV} {r : List DV} {K : DV→Prop} : loadAs pp 117 (c :: r) K = K c.ro:=la_cell ia117 us117
theorem ia118 : isAggT pp 118 = false:=by kernel_rfl
theorem cn118 : pp.cellsOf 118 = 1:=by kernel_rfl
theorem us118 : (pp.underlying 118).isSome = true:=by kernel_rfl
theorem la118 {c : DV} {r : List DV} {K : DV→Prop} : loadAs pp 118 (c :: r) K = K c.ro:=la_cell ia118 us118
theorem ia120 : isAggT pp 120 = true:=by kernel_rfl
theorem ia125 : isAggT pp 125 = false:=by kernel_rfl
theorem cn125 : pp.cellsOf 125 = 1:=by kernel_rfl
theorem us125 : (pp.underlying 125).isSome = true:=by kernel_rfl
theorem bn125 : pp.bytesOf 125 = 24:=by kernel_rfl
theorem zi125 : (pp.info? 125).any (·.zero.isSome) = true:=by kernel_rfl
theorem zd125_4 : zeroDV pp 4 125 = [.sl true 4 []]:=by kernel_rfl
theorem zo125 : zeroOk pp 125 [.sl true 4 []] = true:=by kernel_rfl
theorem la125 {c : DV} {r : List DV} {K : DV→Prop} : loadAs pp 125 (c :: r) K = K c.ro:=la_cell ia125 us125
theorem ia128 : isAggT pp 128 = true:=by kernel_rfl
theorem zo128 : zeroOk pp 128 [.nilp,.int .i64 0,.bool false] = true:=by kernel_rfl
theorem ia131 : isAggT pp 131 = false:=by kernel_rfl
theorem cn131 : pp.cellsOf 131 = 1:=by kernel_rfl
theorem us131 : (pp.underlying 131).isSome = true:=by kernel_rfl
theorem la131 {c : DV} {r : List DV} {K : DV→Prop} : loadAs pp 131 (c :: r) K = K c.ro:=la_cell ia131 us131
theorem ia134 : isAggT pp 134 = true:=by kernel_rfl
theorem cn134 : pp.cellsOf 134 = 3:=by kernel_rfl
theorem us134 : (pp.underlying 134).isSome = true:=by kernel_rfl
theorem bn134 : pp.bytesOf 134 = 40:=by kernel_rfl
theorem zi134 : (pp.info? 134).any (·.zero.isSome) = true:=by kernel_rfl
theorem zd134_4 : zeroDV pp 4 134 = [.int .i64 0,.str [],.str []]:=by kernel_rfl
theorem zo134 : zeroOk pp 134 [.int .i64 0,.str [],.str []] = true:=by kernel_rfl
theorem la134 {cs : List DV} {K : DV→Prop} : loadAs pp 134 cs K = (3≤cs.length∧K (.agg ((cs.take 3).map DV.ro1))):=by rw [la_agg ia134,cn134]
theorem ia138 : isAggT pp 138 = true:=by kernel_rfl
theorem cn138 : pp.cellsOf 138 = 4:=by kernel_rfl
theorem us138 : (pp.underlying 138).isSome = true:=by kernel_rfl
theorem ft138 : funT pp 138 = false:=by kernel_rfl
theorem bn138 : pp.bytesOf 138 = 48:=by kernel_rfl
theorem zi138 : (pp.info? 138).any (·.zero.isSome) = true:=by kernel_rfl
theorem zd138_4 : zeroDV pp 4 138 = [.str [],.int .i64 0,.bool false,.str []]:=by kernel_rfl
theorem zo138 : zeroOk pp 138 [.str [],.int .i64 0,.bool false,.str []] = true:=by kernel_rfl
theorem oc138 : ofCells pp 138 [.str [],.int .i64 0,.bool false,.str []] = (.agg [.str [],.int .i64 0,.bool false,.str []]):=by simp [ofCells,ia138]
theorem la138 {cs : List DV} {K : DV→Prop} : loadAs pp 138 cs K = (4≤cs.length∧K (.agg ((cs.take 4).map DV.ro1))):=by rw [la_agg ia138,cn138]
theorem ia143 : isAggT pp 143 = true:=by kernel_rfl
theorem ia148 : isAggT pp 148 = true:=by kernel_rfl
theorem cn148 : pp.cellsOf 148 = 5:=by kernel_rfl
theorem us148 : (pp.underlying 148).isSome = true:=by kernel_rfl
theorem ft148 : funT pp 148 = false:=by kernel_rfl
theorem bn148 : pp.bytesOf 148 = 72:=by kernel_rfl
theorem zi148 : (pp.info? 148).any (·.zero.isSome) = true:=by kernel_rfl
theorem zd148_4 : zeroDV pp 4 148 = [.int .i64 0,.bool false,.str [],.str [],.sl true 2 []]:=by kernel_rfl
theorem zo148 : zeroOk pp 148 [.int .i64 0,.bool false,.str [],.str [],.sl true 2 []] = true:=by kernel_rfl
theorem la148 {cs : List DV} {K : DV→Prop} : loadAs pp 148 cs K = (5≤cs.length∧K (.agg ((cs.take 5).map DV.ro1))):=by rw [la_agg ia148,cn148]
theorem ia167 : isAggT pp 167 = true:=by kernel_rfl
theorem cn167 : pp.cellsOf 167 = 4:=by kernel_rfl
theorem la167 {cs : List DV} {K : DV→Prop} : loadAs pp 167 cs K = (4≤cs.length∧K (.agg ((cs.take 4).map DV.ro1))):=by rw [la_agg ia167,cn167]
theorem cn172 : pp.cellsOf 172 = 5:=by kernel_rfl
theorem us172 : (pp.underlying 172).isSome = true:=by kernel_rfl
theorem bn172 : pp.bytesOf 172 = 56:=by kernel_rfl
theorem zi172 : (pp.info? 172).any (·.zero.isSome) = true:=by kernel_rfl
theorem zd172_4 : zeroDV pp 4 172 = [.int .i64 0,.int .i64 0,.str [],.str [],.int .i64 0]:=by kernel_rfl
theorem zo172 : zeroOk pp 172 [.int .i64 0,.int .i64 0,.str [],.str [],.int .i64 0] = true:=by kernel_rfl
theorem ia189 : isAggT pp 189 = true:=by kernel_rfl
theorem ia191 : isAggT pp 191 = true:=by kernel_rfl
theorem ia217 : isAggT pp 217 = false:=by kernel_rfl
theorem cn217 : pp.cellsOf 217 = 1:=by kernel_rfl
theorem ft217 : funT pp 217 = false:=by kernel_rfl
theorem zo217 : zeroOk pp 217 [.any] = true:=by kernel_rfl
theorem oc217 : ofCells pp 217 [.any] = (.any):=by simp [ofCells,ia217]
theorem ia218 : isAggT pp 218 = false:=by kernel_rfl
theorem cn218 : pp.cellsOf 218 = 1:=by kernel_rfl
theorem ft218 : funT pp 218 = false:=by kernel_rfl
theorem zo218 : zeroOk pp 218 [.any] = true:=by kernel_rfl
theorem oc218 : ofCells pp 218 [.any] = (.any):=by simp [ofCells,ia218]
theorem zp3 {isObj : ObjT} : zeroDVo pp isObj 6 3 = [.int .i64 0]:=by kernel_rfl
theorem al3 {isObj : ObjT} {Γ : Env} {s : Nat} {t : TypeId} {p : String} {af : Array Edge} {g : Option (Nat × Bool)} {st : St} {K : St→Prop} : dopC pp isObj Γ (hold ⟨some s,.alloc 3,t,p,af,g⟩ (tag _)) st K = K (newVarD isObj st s 3 (.int .i64 0)):=by rw [o_al ft3 zp3 zo3 (by rw [oc3]; rfl),oc3]
theorem zp32 {isObj : ObjT} : zeroDVo pp isObj 6 32 = [.str [],.bool false,.str []]:=by kernel_rfl
theorem al32 {isObj : ObjT} {Γ : Env} {s : Nat} {t : TypeId} {p : String} {af : Array Edge} {g : Option (Nat × Bool)} {st : St} {K : St→Prop} : dopC pp isObj Γ (hold ⟨some s,.alloc 32,t,p,af,g⟩ (tag _)) st K = K (newVarD isObj st s 32 (.agg [.str [],.bool false,.str []])):=by rw [o_al ft32 zp32 zo32 (by rw [oc32]; rfl),oc32]
theorem zp96 {isObj : ObjT} : zeroDVo pp isObj 6 96 = [.str [],.str []]:=by kernel_rfl
theorem zp138 {isObj : ObjT} : zeroDVo pp isObj 6 138 = [.str [],.int .i64 0,.bool false,.str []]:=by kernel_rfl
theorem al138 {isObj : ObjT} {Γ : Env} {s : Nat} {t : TypeId} {p : String} {af : Array Edge} {g : Option (Nat × Bool)} {st : St} {K : St→Prop} : dopC pp isObj Γ (hold ⟨some s,.alloc 138,t,p,af,g⟩ (tag _)) st K = K (newVarD isObj st s 138 (.agg [.str [],.int .i64 0,.bool false,.str []])):=by rw [o_al ft138 zp138 zo138 (by rw [oc138]; rfl),oc138]
theorem zg148 {b64 : Bool} : zeroOk pp 148 [.int .i64 0,.bool false,.str [],.str [],nz b64 2] = true:=by
 cases b64 <;> kernel_rfl
theorem zp148 {isObj : ObjT} : zeroDVo pp isObj 6 148 = [.int .i64 0,.bool false,.str [],.str [],nz (isObj 64) 2]:=by kernel_rfl
theorem zh148 {b64 : Bool} : (ofCells pp 148 [.int .i64 0,.bool false,.str [],.str [],nz b64 2]).cells.all DV.scalar = true:=by
 simp only [ofCells,ia148]
 cases b64 <;> rfl
theorem zc148 {b64 : Bool} : ofCells pp 148 [.int .i64 0,.bool false,.str [],.str [],nz b64 2] = (.agg [.int .i64 0,.bool false,.str [],.str [],nz b64 2]):=by simp [ofCells,ia148]
theorem al148 {isObj : ObjT} {Γ : Env} {s : Nat} {t : TypeId} {p : String} {af : Array Edge} {g : Option (Nat × Bool)} {st : St} {K : St→Prop} : dopC pp isObj Γ (hold ⟨some s,.alloc 148,t,p,af,g⟩ (tag _)) st K = K (newVarD isObj st s 148 (.agg [.int .i64 0,.bool false,.str [],.str [],nz (isObj 64) 2])):=by rw [o_al ft148 zp148 zg148 zh148,zc148]
theorem zg167 {b99 b131 : Bool} : zeroOk pp 167 [nz b99 1,nz b131 5,.int .i64 0,.int .i64 0] = true:=by
 cases b99 <;> cases b131 <;> kernel_rfl
theorem zp167 {isObj : ObjT} : zeroDVo pp isObj 6 167 = [nz (isObj 99) 1,nz (isObj 131) 5,.int .i64 0,.int .i64 0]:=by kernel_rfl
theorem zp217 {isObj : ObjT} : zeroDVo pp isObj 6 217 = [.any]:=by kernel_rfl
theorem al217 {isObj : ObjT} {Γ : Env} {s : Nat} {t : TypeId} {p : String} {af : Array Edge} {g : Option (Nat × Bool)} {st : St} {K : St→Prop} : dopC pp isObj Γ (hold ⟨some s,.alloc 217,t,p,af,g⟩ (tag _)) st K = K (newVarD isObj st s 217 (.any)):=by rw [o_al ft217 zp217 zo217 (by rw [oc217]; rfl),oc217]
theorem zp218 {isObj : ObjT} : zeroDVo pp isObj 6 218 = [.any]:=by kernel_rfl
theorem al218 {isObj : ObjT} {Γ : Env} {s : Nat} {t : TypeId} {p : String} {af : Array Edge} {g : Option (Nat × Bool)} {st : St} {K : St→Prop} : dopC pp isObj Γ (hold ⟨some s,.alloc 218,t,p,af,g⟩ (tag _)) st K = K (newVarD isObj st s 218 (.any)):=by rw [o_al ft218 zp218 zo218 (by rw [oc218]; rfl),oc218]
theorem fl32_0 {s g o : Nat} {K : DV→Prop} : dfieldAddr pp 32 (.lptr s g o) 0 K = K (.lptr s g (o + 0)):=by
 have h:=fa_lptr (P:=pp) (K:=K) (s:=s) (g:=g) (o:=o) Go.Proofs.Tryz.underlying32 (f:=0) rfl
 exact h (by show pp.cellsOf 9 ≠ 0; rw [cn9]; decide)
theorem fp32_1 {i o : Nat} {K : DV→Prop} : dfieldAddr pp 32 (.ptr i o) 1 K = K (.ptr i (o + 1)):=by
 have h:=fa_ptr (P:=pp) (K:=K) (i:=i) (o:=o) Go.Proofs.Tryz.underlying32 (f:=1) rfl
 exact h (by show pp.cellsOf 4 ≠ 0; rw [cn4]; decide)
theorem fl32_1 {s g o : Nat} {K : DV→Prop} : dfieldAddr pp 32 (.lptr s g o) 1 K = K (.lptr s g (o + 1)):=by
 have h:=fa_lptr (P:=pp) (K:=K) (s:=s) (g:=g) (o:=o) Go.Proofs.Tryz.underlying32 (f:=1) rfl
 exact h (by show pp.cellsOf 4 ≠ 0; rw [cn4]; decide)
theorem fp32_2 {i o : Nat} {K : DV→Prop} : dfieldAddr pp 32 (.ptr i o) 2 K = K (.ptr i (o + 2)):=by
 have h:=fa_ptr (P:=pp) (K:=K) (i:=i) (o:=o) Go.Proofs.Tryz.underlying32 (f:=2) rfl
 exact h (by show pp.cellsOf 9 ≠ 0; rw [cn9]; decide)
theorem fl32_2 {s g o : Nat} {K : DV→Prop} : dfieldAddr pp 32 (.lptr s g o) 2 K = K (.lptr s g (o + 2)):=by
 have h:=fa_lptr (P:=pp) (K:=K) (s:=s) (g:=g) (o:=o) Go.Proofs.Tryz.underlying32 (f:=2) rfl
 exact h (by show pp.cellsOf 9 ≠ 0; rw [cn9]; decide)
theorem fp114_0 {i o : Nat} {K : DV→Prop} : dfieldAddr pp 114 (.ptr i o) 0 K = K (.ptr i (o + 0)):=by
 have h:=fa_ptr (P:=pp) (K:=K) (i:=i) (o:=o) Go.Proofs.Tryz.underlying114 (f:=0) rfl
 exact h (by show pp.cellsOf 27 ≠ 0; rw [cn27]; decide)
theorem fp114_1 {i o : Nat} {K : DV→Prop} : dfieldAddr pp 114 (.ptr i o) 1 K = K (.ptr i (o + 1)):=by
 have h:=fa_ptr (P:=pp) (K:=K) (i:=i) (o:=o) Go.Proofs.Tryz.underlying114 (f:=1) rfl
 exact h (by show pp.cellsOf 106 ≠ 0; rw [cn106]; decide)
theorem fp114_3 {i o : Nat} {K : DV→Prop} : dfieldAddr pp 114 (.ptr i o) 3 K = K (.ptr i (o + 3)):=by
 have h:=fa_ptr (P:=pp) (K:=K) (i:=i) (o:=o) Go.Proofs.Tryz.underlying114 (f:=3) rfl
 exact h (by show pp.cellsOf 110 ≠ 0; rw [cn110]; decide)
theorem fp114_4 {i o : Nat} {K : DV→Prop} : dfieldAddr pp 114 (.ptr i o) 4 K = K (.ptr i (o + 4)):=by
 have h:=fa_ptr (P:=pp) (K:=K) (i:=i) (o:=o) Go.Proofs.Tryz.underlying114 (f:=4) rfl
 exact h (by show pp.cellsOf 3 ≠ 0; rw [cn3]; decide)
theorem fp114_5 {i o : Nat} {K : DV→Prop} : dfieldAddr pp 114 (.ptr i o) 5 K = K (.ptr i (o + 5)):=by
 have h:=fa_ptr (P:=pp) (K:=K) (i:=i) (o:=o) Go.Proofs.Tryz.underlying114 (f:=5) rfl
 exact h (by show pp.cellsOf 3 ≠ 0; rw [cn3]; decide)
theorem fp114_6 {i o : Nat} {K : DV→Prop} : dfieldAddr pp 114 (.ptr i o) 6 K = K (.ptr i (o + 6)):=by
 have h:=fa_ptr (P:=pp) (K:=K) (i:=i) (o:=o) Go.Proofs.Tryz.underlying114 (f:=6) rfl
 exact h (by show pp.cellsOf 112 ≠ 0; rw [cn112]; decide)
theorem fp120_0 {i o : Nat} {K : DV→Prop} : dfieldAddr pp 120 (.ptr i o) 0 K = K (.ptr i (o + 0)):=by
 have h:=fa_ptr (P:=pp) (K:=K) (i:=i) (o:=o) Go.Proofs.Tryz.underlying120 (f:=0) rfl
 exact h (by show pp.cellsOf 117 ≠ 0; rw [cn117]; decide)
theorem fp120_1 {i o : Nat} {K : DV→Prop} : dfieldAddr pp 120 (.ptr i o) 1 K = K (.ptr i (o + 1)):=by
 have h:=fa_ptr (P:=pp) (K:=K) (i:=i) (o:=o) Go.Proofs.Tryz.underlying120 (f:=1) rfl
 exact h (by show pp.cellsOf 117 ≠ 0; rw [cn117]; decide)
theorem fp120_2 {i o : Nat} {K : DV→Prop} : dfieldAddr pp 120 (.ptr i o) 2 K = K (.ptr i (o + 2)):=by
 have h:=fa_ptr (P:=pp) (K:=K) (i:=i) (o:=o) Go.Proofs.Tryz.underlying120 (f:=2) rfl
 exact h (by show pp.cellsOf 118 ≠ 0; rw [cn118]; decide)
theorem fp120_3 {i o : Nat} {K : DV→Prop} : dfieldAddr pp 120 (.ptr i o) 3 K = K (.ptr i (o + 3)):=by
 have h:=fa_ptr (P:=pp) (K:=K) (i:=i) (o:=o) Go.Proofs.Tryz.underlying120 (f:=3) rfl
 exact h (by show pp.cellsOf 3 ≠ 0; rw [cn3]; decide)
theorem fp128_0 {i o : Nat} {K : DV→Prop} : dfieldAddr pp 128 (.ptr i o) 0 K = K (.ptr i (o + 0)):=by
 have h:=fa_ptr (P:=pp) (K:=K) (i:=i) (o:=o) Go.Proofs.Tryz.underlying128 (f:=0) rfl
 exact h (by show pp.cellsOf 23 ≠ 0; rw [cn23]; decide)
theorem fp128_1 {i o : Nat} {K : DV→Prop} : dfieldAddr pp 128 (.ptr i o) 1 K = K (.ptr i (o + 1)):=by
 have h:=fa_ptr (P:=pp) (K:=K) (i:=i) (o:=o) Go.Proofs.Tryz.underlying128 (f:=1) rfl
 exact h (by show pp.cellsOf 3 ≠ 0; rw [cn3]; decide)
theorem fp128_2 {i o : Nat} {K : DV→Prop} : dfieldAddr pp 128 (.ptr i o) 2 K = K (.ptr i (o + 2)):=by
 have h:=fa_ptr (P:=pp) (K:=K) (i:=i) (o:=o) Go.Proofs.Tryz.underlying128 (f:=2) rfl
 exact h (by show pp.cellsOf 4 ≠ 0; rw [cn4]; decide)
theorem fl134_0 {s g o : Nat} {K : DV→Prop} : dfieldAddr pp 134 (.lptr s g o) 0 K = K (.lptr s g (o + 0)):=by
 have h:=fa_lptr (P:=pp) (K:=K) (s:=s) (g:=g) (o:=o) Go.Proofs.Tryz.underlying134 (f:=0) rfl
 exact h (by show pp.cellsOf 3 ≠ 0; rw [cn3]; decide)
theorem fl134_1 {s g o : Nat} {K : DV→Prop} : dfieldAddr pp 134 (.lptr s g o) 1 K = K (.lptr s g (o + 1)):=by
 have h:=fa_lptr (P:=pp) (K:=K) (s:=s) (g:=g) (o:=o) Go.Proofs.Tryz.underlying134 (f:=1) rfl
 exact h (by show pp.cellsOf 9 ≠ 0; rw [cn9]; decide)
theorem fl134_2 {s g o : Nat} {K : DV→Prop} : dfieldAddr pp 134 (.lptr s g o) 2 K = K (.lptr s g (o + 2)):=by
 have h:=fa_lptr (P:=pp) (K:=K) (s:=s) (g:=g) (o:=o) Go.Proofs.Tryz.underlying134 (f:=2) rfl
 exact h (by show pp.cellsOf 9 ≠ 0; rw [cn9]; decide)
theorem fp138_0 {i o : Nat} {K : DV→Prop} : dfieldAddr pp 138 (.ptr i o) 0 K = K (.ptr i (o + 0)):=by
 have h:=fa_ptr (P:=pp) (K:=K) (i:=i) (o:=o) Go.Proofs.Tryz.underlying138 (f:=0) rfl
 exact h (by show pp.cellsOf 9 ≠ 0; rw [cn9]; decide)
theorem fl138_0 {s g o : Nat} {K : DV→Prop} : dfieldAddr pp 138 (.lptr s g o) 0 K = K (.lptr s g (o + 0)):=by
 have h:=fa_lptr (P:=pp) (K:=K) (s:=s) (g:=g) (o:=o) Go.Proofs.Tryz.underlying138 (f:=0) rfl
 exact h (by show pp.cellsOf 9 ≠ 0; rw [cn9]; decide)
theorem fv138_0 {cs : List DV} {K : DV→Prop} : dfieldAddr pp 138 (.vptr cs) 0 K = K (.vptr (cs.drop 0)):=by
 have h:=fa_vptr (P:=pp) (K:=K) (cs:=cs) Go.Proofs.Tryz.underlying138 (f:=0) rfl
 exact h (by show pp.cellsOf 9 ≠ 0; rw [cn9]; decide)
theorem fp138_1 {i o : Nat} {K : DV→Prop} : dfieldAddr pp 138 (.ptr i o) 1 K = K (.ptr i (o + 1)):=by
 have h:=fa_ptr (P:=pp) (K:=K) (i:=i) (o:=o) Go.Proofs.Tryz.underlying138 (f:=1) rfl
 exact h (by show pp.cellsOf 3 ≠ 0; rw [cn3]; decide)
theorem fl138_1 {s g o : Nat} {K : DV→Prop} : dfieldAddr pp 138 (.lptr s g o) 1 K = K (.lptr s g (o + 1)):=by
 have h:=fa_lptr (P:=pp) (K:=K) (s:=s) (g:=g) (o:=o) Go.Proofs.Tryz.underlying138 (f:=1) rfl
 exact h (by show pp.cellsOf 3 ≠ 0; rw [cn3]; decide)
theorem fl138_2 {s g o : Nat} {K : DV→Prop} : dfieldAddr pp 138 (.lptr s g o) 2 K = K (.lptr s g (o + 2)):=by
 have h:=fa_lptr (P:=pp) (K:=K) (s:=s) (g:=g) (o:=o) Go.Proofs.Tryz.underlying138 (f:=2) rfl
 exact h (by show pp.cellsOf 4 ≠ 0; rw [cn4]; decide)
theorem fv138_2 {cs : List DV} {K : DV→Prop} : dfieldAddr pp 138 (.vptr cs) 2 K = K (.vptr (cs.drop 2)):=by
 have h:=fa_vptr (P:=pp) (K:=K) (cs:=cs) Go.Proofs.Tryz.underlying138 (f:=2) rfl
 exact h (by show pp.cellsOf 4 ≠ 0; rw [cn4]; decide)
theorem fl138_3 {s g o : Nat} {K : DV→Prop} : dfieldAddr pp 138 (.lptr s g o) 3 K = K (.lptr s g (o + 3)):=by
 have h:=fa_lptr (P:=pp) (K:=K) (s:=s) (g:=g) (o:=o) Go.Proofs.Tryz.underlying138 (f:=3) rfl
 exact h (by show pp.cellsOf 9 ≠ 0; rw [cn9]; decide)
theorem fp143_0 {i o : Nat} {K : DV→Prop} : dfieldAddr pp 143 (.ptr i o) 0 K = K (.ptr i (o + 0)):=by
 have h:=fa_ptr (P:=pp) (K:=K) (i:=i) (o:=o) Go.Proofs.Tryz.underlying143 (f:=0) rfl
 exact h (by show pp.cellsOf 23 ≠ 0; rw [cn23]; decide)
theorem fp143_1 {i o : Nat} {K : DV→Prop} : dfieldAddr pp 143 (.ptr i o) 1 K = K (.ptr i (o + 1)):=by
 have h:=fa_ptr (P:=pp) (K:=K) (i:=i) (o:=o) Go.Proofs.Tryz.underlying143 (f:=1) rfl
 exact h (by show pp.cellsOf 34 ≠ 0; rw [cn34]; decide)
theorem fp143_2 {i o : Nat} {K : DV→Prop} : dfieldAddr pp 143 (.ptr i o) 2 K = K (.ptr i (o + 2)):=by
 have h:=fa_ptr (P:=pp) (K:=K) (i:=i) (o:=o) Go.Proofs.Tryz.underlying143 (f:=2) rfl
 exact h (by show pp.cellsOf 5 ≠ 0; rw [cn5]; decide)
theorem fp143_3 {i o : Nat} {K : DV→Prop} : dfieldAddr pp 143 (.ptr i o) 3 K = K (.ptr i (o + 3)):=by
 have h:=fa_ptr (P:=pp) (K:=K) (i:=i) (o:=o) Go.Proofs.Tryz.underlying143 (f:=3) rfl
 exact h (by show pp.cellsOf 67 ≠ 0; rw [cn67]; decide)
theorem fp143_4 {i o : Nat} {K : DV→Prop} : dfieldAddr pp 143 (.ptr i o) 4 K = K (.ptr i (o + 4)):=by
 have h:=fa_ptr (P:=pp) (K:=K) (i:=i) (o:=o) Go.Proofs.Tryz.underlying143 (f:=4) rfl
 exact h (by show pp.cellsOf 33 ≠ 0; rw [cn33]; decide)
theorem fp143_5 {i o : Nat} {K : DV→Prop} : dfieldAddr pp 143 (.ptr i o) 5 K = K (.ptr i (o + 5)):=by
 have h:=fa_ptr (P:=pp) (K:=K) (i:=i) (o:=o) Go.Proofs.Tryz.underlying143 (f:=5) rfl
 exact h (by show pp.cellsOf 4 ≠ 0; rw [cn4]; decide)
theorem fl148_0 {s g o : Nat} {K : DV→Prop} : dfieldAddr pp 148 (.lptr s g o) 0 K = K (.lptr s g (o + 0)):=by
 have h:=fa_lptr (P:=pp) (K:=K) (s:=s) (g:=g) (o:=o) Go.Proofs.Tryz.underlying148 (f:=0) rfl
 exact h (by show pp.cellsOf 3 ≠ 0; rw [cn3]; decide)
theorem fl148_1 {s g o : Nat} {K : DV→Prop} : dfieldAddr pp 148 (.lptr s g o) 1 K = K (.lptr s g (o + 1)):=by
 have h:=fa_lptr (P:=pp) (K:=K) (s:=s) (g:=g) (o:=o) Go.Proofs.Tryz.underlying148 (f:=1) rfl
 exact h (by show pp.cellsOf 4 ≠ 0; rw [cn4]; decide)
theorem fl148_2 {s g o : Nat} {K : DV→Prop} : dfieldAddr pp 148 (.lptr s g o) 2 K = K (.lptr s g (o + 2)):=by
 have h:=fa_lptr (P:=pp) (K:=K) (s:=s) (g:=g) (o:=o) Go.Proofs.Tryz.underlying148 (f:=2) rfl
 exact h (by show pp.cellsOf 9 ≠ 0; rw [cn9]; decide)
theorem fl148_3 {s g o : Nat} {K : DV→Prop} : dfieldAddr pp 148 (.lptr s g o) 3 K = K (.lptr s g (o + 3)):=by
 have h:=fa_lptr (P:=pp) (K:=K) (s:=s) (g:=g) (o:=o) Go.Proofs.Tryz.underlying148 (f:=3) rfl
 exact h (by show pp.cellsOf 9 ≠ 0; rw [cn9]; decide)
theorem fl148_4 {s g o : Nat} {K : DV→Prop} : dfieldAddr pp 148 (.lptr s g o) 4 K = K (.lptr s g (o + 4)):=by
 have h:=fa_lptr (P:=pp) (K:=K) (s:=s) (g:=g) (o:=o) Go.Proofs.Tryz.underlying148 (f:=4) rfl
 exact h (by show pp.cellsOf 64 ≠ 0; rw [cn64]; decide)
theorem fl167_0 {s g o : Nat} {K : DV→Prop} : dfieldAddr pp 167 (.lptr s g o) 0 K = K (.lptr s g (o + 0)):=by
 have h:=fa_lptr (P:=pp) (K:=K) (s:=s) (g:=g) (o:=o) Go.Proofs.Tryz.underlying167 (f:=0) rfl
 exact h (by show pp.cellsOf 99 ≠ 0; rw [cn99]; decide)
theorem fl167_1 {s g o : Nat} {K : DV→Prop} : dfieldAddr pp 167 (.lptr s g o) 1 K = K (.lptr s g (o + 1)):=by
 have h:=fa_lptr (P:=pp) (K:=K) (s:=s) (g:=g) (o:=o) Go.Proofs.Tryz.underlying167 (f:=1) rfl
 exact h (by show pp.cellsOf 131 ≠ 0; rw [cn131]; decide)
theorem fl167_2 {s g o : Nat} {K : DV→Prop} : dfieldAddr pp 167 (.lptr s g o) 2 K = K (.lptr s g (o + 2)):=by
 have h:=fa_lptr (P:=pp) (K:=K) (s:=s) (g:=g) (o:=o) Go.Proofs.Tryz.underlying167 (f:=2) rfl
 exact h (by show pp.cellsOf 3 ≠ 0; rw [cn3]; decide)
theorem fl167_3 {s g o : Nat} {K : DV→Prop} : dfieldAddr pp 167 (.lptr s g o) 3 K = K (.lptr s g (o + 3)):=by
 have h:=fa_lptr (P:=pp) (K:=K) (s:=s) (g:=g) (o:=o) Go.Proofs.Tryz.underlying167 (f:=3) rfl
 exact h (by show pp.cellsOf 3 ≠ 0; rw [cn3]; decide)
theorem fp189_0 {i o : Nat} {K : DV→Prop} : dfieldAddr pp 189 (.ptr i o) 0 K = K (.ptr i (o + 0)):=by
 have h:=fa_ptr (P:=pp) (K:=K) (i:=i) (o:=o) Go.Proofs.Tryz.underlying189 (f:=0) rfl
 exact h (by show pp.cellsOf 125 ≠ 0; rw [cn125]; decide)
theorem fp189_1 {i o : Nat} {K : DV→Prop} : dfieldAddr pp 189 (.ptr i o) 1 K = K (.ptr i (o + 1)):=by
 have h:=fa_ptr (P:=pp) (K:=K) (i:=i) (o:=o) Go.Proofs.Tryz.underlying189 (f:=1) rfl
 exact h (by show pp.cellsOf 3 ≠ 0; rw [cn3]; decide)
theorem fp191_0 {i o : Nat} {K : DV→Prop} : dfieldAddr pp 191 (.ptr i o) 0 K = K (.ptr i (o + 0)):=by
 have h:=fa_ptr (P:=pp) (K:=K) (i:=i) (o:=o) Go.Proofs.Tryz.underlying191 (f:=0) rfl
 exact h (by show pp.cellsOf 131 ≠ 0; rw [cn131]; decide)
theorem dl9 {n : Nat} {l : List (Nat × DV)} {B : List (Nat × Nat × List DV)} {H : List HObj} {lk : List (Nat × Pos)} {K : DV→Prop} {s : List UInt8} : dlen pp (mk n l B H lk) 9 (.str s) K = K (.int .i64 s.length):=dl_str Go.Proofs.Tryz.underlying9
theorem dl33 {n : Nat} {l : List (Nat × DV)} {B : List (Nat × Nat × List DV)} {H : List HObj} {lk : List (Nat × Pos)} {K : DV→Prop} {own : Bool} {sz : Nat} {xs : List DV} : dlen pp (mk n l B H lk) 33 (.sl own sz xs) K = K (.int .i64 xs.length):=dl_sl Go.Proofs.Tryz.underlying33
theorem dlh33 {n : Nat} {l : List (Nat × DV)} {B : List (Nat × Nat × List DV)} {H : List HObj} {lk : List (Nat × Pos)} {K : DV→Prop} {id sz off len cap : Nat} : dlen pp (mk n l B H lk) 33 (.hsl id sz off len cap) K = K (.int .i64 len):=dl_hsl Go.Proofs.Tryz.underlying33
theorem dl36 {n : Nat} {l : List (Nat × DV)} {B : List (Nat × Nat × List DV)} {H : List HObj} {lk : List (Nat × Pos)} {K : DV→Prop} {own : Bool} {sz : Nat} {xs : List DV} : dlen pp (mk n l B H lk) 36 (.sl own sz xs) K = K (.int .i64 xs.length):=dl_sl Go.Proofs.Tryz.underlying36
theorem dl64 {n : Nat} {l : List (Nat × DV)} {B : List (Nat × Nat × List DV)} {H : List HObj} {lk : List (Nat × Pos)} {K : DV→Prop} {own : Bool} {sz : Nat} {xs : List DV} : dlen pp (mk n l B H lk) 64 (.sl own sz xs) K = K (.int .i64 xs.length):=dl_sl Go.Proofs.Tryz.underlying64
theorem dl67 {n : Nat} {l : List (Nat × DV)} {B : List (Nat × Nat × List DV)} {H : List HObj} {lk : List (Nat × Pos)} {K : DV→Prop} {own : Bool} {sz : Nat} {xs : List DV} : dlen pp (mk n l B H lk) 67 (.sl own sz xs) K = K (.int .i64 xs.length):=dl_sl Go.Proofs.Tryz.underlying67
theorem dl99 {n : Nat} {l : List (Nat × DV)} {B : List (Nat × Nat × List DV)} {H : List HObj} {lk : List (Nat × Pos)} {K : DV→Prop} {own : Bool} {sz : Nat} {xs : List DV} : dlen pp (mk n l B H lk) 99 (.sl own sz xs) K = K (.int .i64 xs.length):=dl_sl Go.Proofs.Tryz.underlying99
theorem dl117 {n : Nat} {l : List (Nat × DV)} {B : List (Nat × Nat × List DV)} {H : List HObj} {lk : List (Nat × Pos)} {K : DV→Prop} {id : Nat} : dlen pp (mk n l B H lk) 117 (.map id) K = onMap (H[id]?) (fun es K => K (.int .i64 es.length)) K:=by
 simp only [dlen,Go.Proofs.Tryz.underlying117,mk]
 cases H[id]? with
 | none => simp [onMap]
 | some o => cases o <;> simp [onMap]
theorem dl125 {n : Nat} {l : List (Nat × DV)} {B : List (Nat × Nat × List DV)} {H : List HObj} {lk : List (Nat × Pos)} {K : DV→Prop} {own : Bool} {sz : Nat} {xs : List DV} : dlen pp (mk n l B H lk) 125 (.sl own sz xs) K = K (.int .i64 xs.length):=dl_sl Go.Proofs.Tryz.underlying125
theorem dlh125 {n : Nat} {l : List (Nat × DV)} {B : List (Nat × Nat × List DV)} {H : List HObj} {lk : List (Nat × Pos)} {K : DV→Prop} {id sz off len cap : Nat} : dlen pp (mk n l B H lk) 125 (.hsl id sz off len cap) K = K (.int .i64 len):=dl_hsl Go.Proofs.Tryz.underlying125
theorem dl131 {n : Nat} {l : List (Nat × DV)} {B : List (Nat × Nat × List DV)} {H : List HObj} {lk : List (Nat × Pos)} {K : DV→Prop} {own : Bool} {sz : Nat} {xs : List DV} : dlen pp (mk n l B H lk) 131 (.sl own sz xs) K = K (.int .i64 xs.length):=dl_sl Go.Proofs.Tryz.underlying131
theorem dl154 {n : Nat} {l : List (Nat × DV)} {B : List (Nat × Nat × List DV)} {H : List HObj} {lk : List (Nat × Pos)} {K : DV→Prop} {own : Bool} {sz : Nat} {xs : List DV} : dlen pp (mk n l B H lk) 154 (.sl own sz xs) K = K (.int .i64 xs.length):=dl_sl Go.Proofs.Tryz.underlying154
theorem dlh154 {n : Nat} {l : List (Nat × DV)} {B : List (Nat × Nat × List DV)} {H : List HObj} {lk : List (Nat × Pos)} {K : DV→Prop} {id sz off len cap : Nat} : dlen pp (mk n l B H lk) 154 (.hsl id sz off len cap) K = K (.int .i64 len):=dl_hsl Go.Proofs.Tryz.underlying154
theorem dl194 {n : Nat} {l : List (Nat × DV)} {B : List (Nat × Nat × List DV)} {H : List HObj} {lk : List (Nat × Pos)} {K : DV→Prop} {own : Bool} {sz : Nat} {xs : List DV} : dlen pp (mk n l B H lk) 194 (.sl own sz xs) K = K (.int .i64 xs.length):=dl_sl Go.Proofs.Tryz.underlying194
theorem dl202 {n : Nat} {l : List (Nat × DV)} {B : List (Nat × Nat × List DV)} {H : List HObj} {lk : List (Nat × Pos)} {K : DV→Prop} {own : Bool} {sz : Nat} {xs : List DV} : dlen pp (mk n l B H lk) 202 (.sl own sz xs) K = K (.int .i64 xs.length):=dl_sl Go.Proofs.Tryz.underlying202
theorem ix33 {k : IntKind} {i : Int} {own : Bool} {xs : List DV} {K : DV→Prop} : dindexAddr pp 33 (.sl own 3 xs) (.int k i) K = (0≤i∧i < xs.length∧K (.vptr (xs.getD i.toNat .undef).cells)):=ia_sl Go.Proofs.Tryz.underlying33 cn32 us32
theorem ixh33 {k : IntKind} {i : Int} {id off len cap : Nat} {K : DV→Prop} : dindexAddr pp 33 (.hsl id 3 off len cap) (.int k i) K = (0≤i∧i < len∧K (.ptr id (off + i.toNat * 3))):=ia_hsl Go.Proofs.Tryz.underlying33 cn32 us32
theorem ix36 {k : IntKind} {i : Int} {own : Bool} {xs : List DV} {K : DV→Prop} : dindexAddr pp 36 (.sl own 1 xs) (.int k i) K = (0≤i∧i < xs.length∧K (.vptr (xs.getD i.toNat .undef).cells)):=ia_sl Go.Proofs.Tryz.underlying36 cn5 us5
theorem ixh36 {k : IntKind} {i : Int} {id off len cap : Nat} {K : DV→Prop} : dindexAddr pp 36 (.hsl id 1 off len cap) (.int k i) K = (0≤i∧i < len∧K (.ptr id (off + i.toNat * 1))):=ia_hsl Go.Proofs.Tryz.underlying36 cn5 us5
theorem ix64 {k : IntKind} {i : Int} {own : Bool} {xs : List DV} {K : DV→Prop} : dindexAddr pp 64 (.sl own 2 xs) (.int k i) K = (0≤i∧i < xs.length∧K (.vptr (xs.getD i.toNat .undef).cells)):=ia_sl Go.Proofs.Tryz.underlying64 cn96 us96
theorem ix67 {k : IntKind} {i : Int} {own : Bool} {xs : List DV} {K : DV→Prop} : dindexAddr pp 67 (.sl own 5 xs) (.int k i) K = (0≤i∧i < xs.length∧K (.vptr (xs.getD i.toNat .undef).cells)):=ia_sl Go.Proofs.Tryz.underlying67 cn148 us148
theorem ix99 {k : IntKind} {i : Int} {own : Bool} {xs : List DV} {K : DV→Prop} : dindexAddr pp 99 (.sl own 1 xs) (.int k i) K = (0≤i∧i < xs.length∧K (.vptr (xs.getD i.toNat .undef).cells)):=ia_sl Go.Proofs.Tryz.underlying99 cn3 us3
theorem ix125 {k : IntKind} {i : Int} {own : Bool} {xs : List DV} {K : DV→Prop} : dindexAddr pp 125 (.sl own 4 xs) (.int k i) K = (0≤i∧i < xs.length∧K (.vptr (xs.getD i.toNat .undef).cells)):=ia_sl Go.Proofs.Tryz.underlying125 cn138 us138
theorem ixh125 {k : IntKind} {i : Int} {id off len cap : Nat} {K : DV→Prop} : dindexAddr pp 125 (.hsl id 4 off len cap) (.int k i) K = (0≤i∧i < len∧K (.ptr id (off + i.toNat * 4))):=ia_hsl Go.Proofs.Tryz.underlying125 cn138 us138
theorem ix154 {k : IntKind} {i : Int} {own : Bool} {xs : List DV} {K : DV→Prop} : dindexAddr pp 154 (.sl own 1 xs) (.int k i) K = (0≤i∧i < xs.length∧K (.vptr (xs.getD i.toNat .undef).cells)):=ia_sl Go.Proofs.Tryz.underlying154 cn125 us125
theorem ixh154 {k : IntKind} {i : Int} {id off len cap : Nat} {K : DV→Prop} : dindexAddr pp 154 (.hsl id 1 off len cap) (.int k i) K = (0≤i∧i < len∧K (.ptr id (off + i.toNat * 1))):=ia_hsl Go.Proofs.Tryz.underlying154 cn125 us125
theorem ix202 {k : IntKind} {i : Int} {own : Bool} {xs : List DV} {K : DV→Prop} : dindexAddr pp 202 (.sl own 1 xs) (.int k i) K = (0≤i∧i < xs.length∧K (.vptr (xs.getD i.toNat .undef).cells)):=ia_sl Go.Proofs.Tryz.underlying202 cn24 us24
theorem ix9 {k : IntKind} {i : Int} {s : List UInt8} {K : DV→Prop} : dindex pp 9 (.str s) (.int k i) K = (0≤i∧i < s.length∧K (.int .u8 (s.getD i.toNat 0).toNat)):=ix_str Go.Proofs.Tryz.underlying9
theorem sc33 {o : Bool} {xs : List DV} {lo hi : Option DV} {K : DV→Prop} : dslice pp 33 (.sl o 3 xs) lo hi K = dbound xs.length hi xs.length fun h => dbound h lo 0 fun l => K (.sl false 3 ((xs.take h).drop l)):=sl_sl Go.Proofs.Tryz.underlying33 cn32 us32
theorem sch33 {id off len cap : Nat} {lo hi : Option DV} {K : DV→Prop} : dslice pp 33 (.hsl id 3 off len cap) lo hi K = dbound cap hi len fun h => dbound h lo 0 fun l => K (.hsl id 3 (off + l * 3) (h - l) (cap - l)):=sl_hsl Go.Proofs.Tryz.underlying33 cn32 us32
theorem sc125 {o : Bool} {xs : List DV} {lo hi : Option DV} {K : DV→Prop} : dslice pp 125 (.sl o 4 xs) lo hi K = dbound xs.length hi xs.length fun h => dbound h lo 0 fun l => K (.sl false 4 ((xs.take h).drop l)):=sl_sl Go.Proofs.Tryz.underlying125 cn138 us138
theorem sch125 {id off len cap : Nat} {lo hi : Option DV} {K : DV→Prop} : dslice pp 125 (.hsl id 4 off len cap) lo hi K = dbound cap hi len fun h => dbound h lo 0 fun l => K (.hsl id 4 (off + l * 4) (h - l) (cap - l)):=sl_hsl Go.Proofs.Tryz.underlying125 cn138 us138
theorem cv3_5 {st : St} {k : IntKind} {i : Int} {K : DV→Prop} : dconv pp st 3 5 (.int k i) K = K (.int .u8 (IntKind.u8.wrap i)):=cv_ii Go.Proofs.Tryz.underlying3 Go.Proofs.Tryz.underlying5
theorem cv3_267 {st : St} {k : IntKind} {i : Int} {K : DV→Prop} : dconv pp st 3 267 (.int k i) K = K (.int .u64 (IntKind.u64.wrap i)):=cv_ii Go.Proofs.Tryz.underlying3 Go.Proofs.Tryz.underlying267
theorem cv5_3 {st : St} {k : IntKind} {i : Int} {K : DV→Prop} : dconv pp st 5 3 (.int k i) K = K (.int .i64 (IntKind.i64.wrap i)):=cv_ii Go.Proofs.Tryz.underlying5 Go.Proofs.Tryz.underlying3
theorem cv5_243 {st : St} {k : IntKind} {i : Int} {K : DV→Prop} : dconv pp st 5 243 (.int k i) K = K (.int .u32 (IntKind.u32.wrap i)):=cv_ii Go.Proofs.Tryz.underlying5 Go.Proofs.Tryz.underlying243
theorem cv36_9 {st : St} {o : Bool} {xs : List DV} {K : DV→Prop} : dconv pp st 36 9 (.sl o 1 xs) K = (∃ x,bytesOf xs = some x∧K (.str x)):=cv_bs Go.Proofs.Tryz.underlying36 Go.Proofs.Tryz.underlying9 Go.Proofs.Tryz.underlying5
theorem cvh36_9 {n : Nat} {l : List (Nat × DV)} {B : List (Nat × Nat × List DV)} {H : List HObj} {lk : List (Nat × Pos)} {K : DV→Prop} {id off len cap : Nat} : dconv pp (mk n l B H lk) 36 9 (.hsl id 1 off len cap) K = cvh off len K (H[id]?):=cv_bh Go.Proofs.Tryz.underlying36 Go.Proofs.Tryz.underlying9 Go.Proofs.Tryz.underlying5
theorem cv243_5 {st : St} {k : IntKind} {i : Int} {K : DV→Prop} : dconv pp st 243 5 (.int k i) K = K (.int .u8 (IntKind.u8.wrap i)):=cv_ii Go.Proofs.Tryz.underlying243 Go.Proofs.Tryz.underlying5
theorem cv267_3 {st : St} {k : IntKind} {i : Int} {K : DV→Prop} : dconv pp st 267 3 (.int k i) K = K (.int .i64 (IntKind.i64.wrap i)):=cv_ii Go.Proofs.Tryz.underlying267 Go.Proofs.Tryz.underlying3
theorem aph33_33 {st : St} {s : Nat} {x : Operand} {id sz off len cap : Nat} {K : St→Prop} : appendObjD pp st s 33 33 x (.hsl id sz off len cap) K = apdO pp 33 3 40 s (.hsl id sz off len cap) (take pp st 33 x) K:=ap_objH Go.Proofs.Tryz.underlying33 us32 (by decide) cn32 bn32 (by rw [zd32_4]; exact zo32)
theorem ap36_36 {st : St} {s : Nat} {x : Operand} {own : Bool} {ys : List DV} {K : St→Prop} : appendD pp st s 36 36 x (.sl own 1 ys) K = apd 1 1 s ys (take pp st 36 x) K:=ap_sl Go.Proofs.Tryz.underlying36 Go.Proofs.Tryz.underlying36 us5 (by decide) cn5 bn5 (by rw [zd5_4]; exact zo5)
theorem apo36_36 {st : St} {s : Nat} {x : Operand} {own : Bool} {sz : Nat} {ys : List DV} {K : St→Prop} : appendObjD pp st s 36 36 x (.sl own sz ys) K = apdO pp 36 1 1 s (.sl own sz ys) (take pp st 36 x) K:=ap_objS Go.Proofs.Tryz.underlying36 us5 (by decide) cn5 bn5 (by rw [zd5_4]; exact zo5)
theorem ap64_64 {st : St} {s : Nat} {x : Operand} {own : Bool} {ys : List DV} {K : St→Prop} : appendD pp st s 64 64 x (.sl own 2 ys) K = apd 2 32 s ys (take pp st 64 x) K:=ap_sl Go.Proofs.Tryz.underlying64 Go.Proofs.Tryz.underlying64 us96 (by decide) cn96 bn96 (by rw [zd96_4]; exact zo96)
theorem apo64_64 {st : St} {s : Nat} {x : Operand} {own : Bool} {sz : Nat} {ys : List DV} {K : St→Prop} : appendObjD pp st s 64 64 x (.sl own sz ys) K = apdO pp 64 2 32 s (.sl own sz ys) (take pp st 64 x) K:=ap_objS Go.Proofs.Tryz.underlying64 us96 (by decide) cn96 bn96 (by rw [zd96_4]; exact zo96)
theorem ap67_67 {st : St} {s : Nat} {x : Operand} {own : Bool} {ys : List DV} {K : St→Prop} : appendD pp st s 67 67 x (.sl own 5 ys) K = apd 5 72 s ys (take pp st 67 x) K:=ap_sl Go.Proofs.Tryz.underlying67 Go.Proofs.Tryz.underlying67 us148 (by decide) cn148 bn148 (by rw [zd148_4]; exact zo148)
theorem apo67_67 {st : St} {s : Nat} {x : Operand} {own : Bool} {sz : Nat} {ys : List DV} {K : St→Prop} : appendObjD pp st s 67 67 x (.sl own sz ys) K = apdO pp 67 5 72 s (.sl own sz ys) (take pp st 67 x) K:=ap_objS Go.Proofs.Tryz.underlying67 us148 (by decide) cn148 bn148 (by rw [zd148_4]; exact zo148)
theorem ap118_118 {st : St} {s : Nat} {x : Operand} {own : Bool} {ys : List DV} {K : St→Prop} : appendD pp st s 118 118 x (.sl own 3 ys) K = apd 3 40 s ys (take pp st 118 x) K:=ap_sl Go.Proofs.Tryz.underlying118 Go.Proofs.Tryz.underlying118 us134 (by decide) cn134 bn134 (by rw [zd134_4]; exact zo134)
theorem apo118_118 {st : St} {s : Nat} {x : Operand} {own : Bool} {sz : Nat} {ys : List DV} {K : St→Prop} : appendObjD pp st s 118 118 x (.sl own sz ys) K = apdO pp 118 3 40 s (.sl own sz ys) (take pp st 118 x) K:=ap_objS Go.Proofs.Tryz.underlying118 us134 (by decide) cn134 bn134 (by rw [zd134_4]; exact zo134)
theorem apz125_3 {st : St} {s : Nat} {x : Operand} {k : IntKind} {n : Int} {K : St→Prop} : appendObjD pp st s 125 3 x (.int k n) K = apZ [.str [],.int .i64 0,.bool false,.str []] 4 48 s n (take pp st 125 x) K:=ap_objZ Go.Proofs.Tryz.underlying125 Go.Proofs.Tryz.underlying3 us138 (by decide) cn138 bn138 (by rw [zd138_4]; exact zo138) (by rw [zd138_4]; rfl) (by rw [zd138_4]; rfl)
theorem ap125_125 {st : St} {s : Nat} {x : Operand} {own : Bool} {ys : List DV} {K : St→Prop} : appendD pp st s 125 125 x (.sl own 4 ys) K = apd 4 48 s ys (take pp st 125 x) K:=ap_sl Go.Proofs.Tryz.underlying125 Go.Proofs.Tryz.underlying125 us138 (by decide) cn138 bn138 (by rw [zd138_4]; exact zo138)
theorem apo125_125 {st : St} {s : Nat} {x : Operand} {own : Bool} {sz : Nat} {ys : List DV} {K : St→Prop} : appendObjD pp st s 125 125 x (.sl own sz ys) K = apdO pp 125 4 48 s (.sl own sz ys) (take pp st 125 x) K:=ap_objS Go.Proofs.Tryz.underlying125 us138 (by decide) cn138 bn138 (by rw [zd138_4]; exact zo138)
theorem aph125_125 {st : St} {s : Nat} {x : Operand} {id sz off len cap : Nat} {K : St→Prop} : appendObjD pp st s 125 125 x (.hsl id sz off len cap) K = apdO pp 125 4 48 s (.hsl id sz off len cap) (take pp st 125 x) K:=ap_objH Go.Proofs.Tryz.underlying125 us138 (by decide) cn138 bn138 (by rw [zd138_4]; exact zo138)
theorem ap131_131 {st : St} {s : Nat} {x : Operand} {own : Bool} {ys : List DV} {K : St→Prop} : appendD pp st s 131 131 x (.sl own 5 ys) K = apd 5 56 s ys (take pp st 131 x) K:=ap_sl Go.Proofs.Tryz.underlying131 Go.Proofs.Tryz.underlying131 us172 (by decide) cn172 bn172 (by rw [zd172_4]; exact zo172)
theorem apo131_131 {st : St} {s : Nat} {x : Operand} {own : Bool} {sz : Nat} {ys : List DV} {K : St→Prop} : appendObjD pp st s 131 131 x (.sl own sz ys) K = apdO pp 131 5 56 s (.sl own sz ys) (take pp st 131 x) K:=ap_objS Go.Proofs.Tryz.underlying131 us172 (by decide) cn172 bn172 (by rw [zd172_4]; exact zo172)
theorem ap154_154 {st : St} {s : Nat} {x : Operand} {own : Bool} {ys : List DV} {K : St→Prop} : appendD pp st s 154 154 x (.sl own 1 ys) K = apd 1 24 s ys (take pp st 154 x) K:=ap_sl Go.Proofs.Tryz.underlying154 Go.Proofs.Tryz.underlying154 us125 (by decide) cn125 bn125 (by rw [zd125_4]; exact zo125)
theorem apo154_154 {st : St} {s : Nat} {x : Operand} {own : Bool} {sz : Nat} {ys : List DV} {K : St→Prop} : appendObjD pp st s 154 154 x (.sl own sz ys) K = apdO pp 154 1 24 s (.sl own sz ys) (take pp st 154 x) K:=ap_objS Go.Proofs.Tryz.underlying154 us125 (by decide) cn125 bn125 (by rw [zd125_4]; exact zo125)
theorem aph154_154 {st : St} {s : Nat} {x : Operand} {id sz off len cap : Nat} {K : St→Prop} : appendObjD pp st s 154 154 x (.hsl id sz off len cap) K = apdO pp 154 1 24 s (.hsl id sz off len cap) (take pp st 154 x) K:=ap_objH Go.Proofs.Tryz.underlying154 us125 (by decide) cn125 bn125 (by rw [zd125_4]; exact zo125)
theorem bs33_0 {isObj : ObjT} {Γ : Env} {s : Nat} {t : TypeId} {p : String} {af : Array Edge} {g : Option (Nat × Bool)} {st : St} {K : St→Prop} : dopC pp isObj Γ (hold ⟨some s,.buildSlice 33 0 #[],t,p,af,g⟩ (tag _)) st K = K (st.put s (.sl true 3 [])):=bs_zero Go.Proofs.Tryz.underlying33 us32 cn32 (by decide) zi32
theorem bs33_1 {isObj : ObjT} {Γ : Env} {s : Nat} {t : TypeId} {p : String} {af : Array Edge} {g : Option (Nat × Bool)} {st : St} {K : St→Prop} {x : Operand} : dopC pp isObj Γ (hold ⟨some s,.buildSlice 33 1 #[(0,x)],t,p,af,g⟩ (tag _)) st K = bsl (isObj 33) 3 1 s [(rho pp st 32 x).ro] st K:=bs_1 Go.Proofs.Tryz.underlying33 us32 cn32 (by decide) (by decide) zi32
theorem bs36_1 {isObj : ObjT} {Γ : Env} {s : Nat} {t : TypeId} {p : String} {af : Array Edge} {g : Option (Nat × Bool)} {st : St} {K : St→Prop} {x : Operand} : dopC pp isObj Γ (hold ⟨some s,.buildSlice 36 1 #[(0,x)],t,p,af,g⟩ (tag _)) st K = bsl (isObj 36) 1 1 s [(rho pp st 5 x).ro] st K:=bs_1 Go.Proofs.Tryz.underlying36 us5 cn5 (by decide) (by decide) zi5
theorem bs64_0 {isObj : ObjT} {Γ : Env} {s : Nat} {t : TypeId} {p : String} {af : Array Edge} {g : Option (Nat × Bool)} {st : St} {K : St→Prop} : dopC pp isObj Γ (hold ⟨some s,.buildSlice 64 0 #[],t,p,af,g⟩ (tag _)) st K = K (st.put s (.sl true 2 [])):=bs_zero Go.Proofs.Tryz.underlying64 us96 cn96 (by decide) zi96
theorem bs64_1 {isObj : ObjT} {Γ : Env} {s : Nat} {t : TypeId} {p : String} {af : Array Edge} {g : Option (Nat × Bool)} {st : St} {K : St→Prop} {x : Operand} : dopC pp isObj Γ (hold ⟨some s,.buildSlice 64 1 #[(0,x)],t,p,af,g⟩ (tag _)) st K = bsl (isObj 64) 2 1 s [(rho pp st 96 x).ro] st K:=bs_1 Go.Proofs.Tryz.underlying64 us96 cn96 (by decide) (by decide) zi96
theorem bs67_1 {isObj : ObjT} {Γ : Env} {s : Nat} {t : TypeId} {p : String} {af : Array Edge} {g : Option (Nat × Bool)} {st : St} {K : St→Prop} {x : Operand} : dopC pp isObj Γ (hold ⟨some s,.buildSlice 67 1 #[(0,x)],t,p,af,g⟩ (tag _)) st K = bsl (isObj 67) 5 1 s [(rho pp st 148 x).ro] st K:=bs_1 Go.Proofs.Tryz.underlying67 us148 cn148 (by decide) (by decide) zi148
theorem bs99_2 {isObj : ObjT} {Γ : Env} {s : Nat} {t : TypeId} {p : String} {af : Array Edge} {g : Option (Nat × Bool)} {st : St} {K : St→Prop} {x y : Operand} : dopC pp isObj Γ (hold ⟨some s,.buildSlice 99 2 #[(0,x),(1,y)],t,p,af,g⟩ (tag _)) st K = bsl (isObj 99) 1 2 s [(rho pp st 3 x).ro,(rho pp st 3 y).ro] st K:=bs_2 Go.Proofs.Tryz.underlying99 us3 cn3 (by decide) (by decide) zi3
theorem bs118_1 {isObj : ObjT} {Γ : Env} {s : Nat} {t : TypeId} {p : String} {af : Array Edge} {g : Option (Nat × Bool)} {st : St} {K : St→Prop} {x : Operand} : dopC pp isObj Γ (hold ⟨some s,.buildSlice 118 1 #[(0,x)],t,p,af,g⟩ (tag _)) st K = bsl (isObj 118) 3 1 s [(rho pp st 134 x).ro] st K:=bs_1 Go.Proofs.Tryz.underlying118 us134 cn134 (by decide) (by decide) zi134
theorem bs125_1 {isObj : ObjT} {Γ : Env} {s : Nat} {t : TypeId} {p : String} {af : Array Edge} {g : Option (Nat × Bool)} {st : St} {K : St→Prop} {x : Operand} : dopC pp isObj Γ (hold ⟨some s,.buildSlice 125 1 #[(0,x)],t,p,af,g⟩ (tag _)) st K = bsl (isObj 125) 4 1 s [(rho pp st 138 x).ro] st K:=bs_1 Go.Proofs.Tryz.underlying125 us138 cn138 (by decide) (by decide) zi138
theorem bs131_0 {isObj : ObjT} {Γ : Env} {s : Nat} {t : TypeId} {p : String} {af : Array Edge} {g : Option (Nat × Bool)} {st : St} {K : St→Prop} : dopC pp isObj Γ (hold ⟨some s,.buildSlice 131 0 #[],t,p,af,g⟩ (tag _)) st K = K (st.put s (.sl true 5 [])):=bs_zero Go.Proofs.Tryz.underlying131 us172 cn172 (by decide) zi172
theorem bs154_0 {isObj : ObjT} {Γ : Env} {s : Nat} {t : TypeId} {p : String} {af : Array Edge} {g : Option (Nat × Bool)} {st : St} {K : St→Prop} : dopC pp isObj Γ (hold ⟨some s,.buildSlice 154 0 #[],t,p,af,g⟩ (tag _)) st K = K (st.put s (.sl true 1 [])):=bs_zero Go.Proofs.Tryz.underlying154 us125 cn125 (by decide) zi125
theorem bs154_1 {isObj : ObjT} {Γ : Env} {s : Nat} {t : TypeId} {p : String} {af : Array Edge} {g : Option (Nat × Bool)} {st : St} {K : St→Prop} {x : Operand} : dopC pp isObj Γ (hold ⟨some s,.buildSlice 154 1 #[(0,x)],t,p,af,g⟩ (tag _)) st K = bsl (isObj 154) 1 1 s [(rho pp st 125 x).ro] st K:=bs_1 Go.Proofs.Tryz.underlying154 us125 cn125 (by decide) (by decide) zi125
theorem bs202_1 {isObj : ObjT} {Γ : Env} {s : Nat} {t : TypeId} {p : String} {af : Array Edge} {g : Option (Nat × Bool)} {st : St} {K : St→Prop} {x : Operand} : dopC pp isObj Γ (hold ⟨some s,.buildSlice 202 1 #[(0,x)],t,p,af,g⟩ (tag _)) st K = bsl (isObj 202) 1 1 s [(rho pp st 24 x).ro] st K:=bs_1 Go.Proofs.Tryz.underlying202 us24 cn24 (by decide) (by decide) zi24
theorem bs202_2 {isObj : ObjT} {Γ : Env} {s : Nat} {t : TypeId} {p : String} {af : Array Edge} {g : Option (Nat × Bool)} {st : St} {K : St→Prop} {x y : Operand} : dopC pp isObj Γ (hold ⟨some s,.buildSlice 202 2 #[(0,x),(1,y)],t,p,af,g⟩ (tag _)) st K = bsl (isObj 202) 1 2 s [(rho pp st 24 x).ro,(rho pp st 24 y).ro] st K:=bs_2 Go.Proofs.Tryz.underlying202 us24 cn24 (by decide) (by decide) zi24
noncomputable def fs32 : Array Field:=match pp.underlying 32 with | some (.struct fs) => fs | _ => #[]
theorem bd32 {isObj : ObjT} {Γ : Env} {s : Nat} {t : TypeId} {p : String} {af : Array Edge} {g : Option (Nat × Bool)} {parts : List (Nat × Operand)} {st : St} {K : St→Prop} : dopC pp isObj Γ (hold ⟨some s,.build 32 parts.toArray,t,p,af,g⟩ (tag _)) st K = buildD pp fs32 parts [.str [],.bool false,.str []] (st.put s .undef) (hold (fun cs st' => K (st'.put s (.agg cs))) (tag _)):=o_bd (by kernel_rfl) ia32 zp32 zo32 (by kernel_rfl)
theorem bd32_0 {st : St} {cs : List DV} {x : Operand} {r : List (Nat × Operand)} {F : List DV→St→Prop} : buildD pp fs32 ((0,x) :: r) cs st F = bdk 0 1 cs (take pp st 9 x) (hold (fun cs st => buildD pp fs32 r cs st F) (tag _)):=bd_cons (by kernel_rfl) cn9
theorem bd32_1 {st : St} {cs : List DV} {x : Operand} {r : List (Nat × Operand)} {F : List DV→St→Prop} : buildD pp fs32 ((1,x) :: r) cs st F = bdk 1 1 cs (take pp st 4 x) (hold (fun cs st => buildD pp fs32 r cs st F) (tag _)):=bd_cons (by kernel_rfl) cn4
theorem bd32_2 {st : St} {cs : List DV} {x : Operand} {r : List (Nat × Operand)} {F : List DV→St→Prop} : buildD pp fs32 ((2,x) :: r) cs st F = bdk 2 1 cs (take pp st 9 x) (hold (fun cs st => buildD pp fs32 r cs st F) (tag _)):=bd_cons (by kernel_rfl) cn9
noncomputable def fs59 : Array Field:=match pp.underlying 59 with | some (.struct fs) => fs | _ => #[]
noncomputable def fs73 : Array Field:=match pp.underlying 73 with | some (.struct fs) => fs | _ => #[]
noncomputable def fs96 : Array Field:=match pp.underlying 96 with | some (.struct fs) => fs | _ => #[]
theorem bd96 {isObj : ObjT} {Γ : Env} {s : Nat} {t : TypeId} {p : String} {af : Array Edge} {g : Option (Nat × Bool)} {parts : List (Nat × Operand)} {st : St} {K : St→Prop} : dopC pp isObj Γ (hold ⟨some s,.build 96 parts.toArray,t,p,af,g⟩ (tag _)) st K = buildD pp fs96 parts [.str [],.str []] (st.put s .undef) (hold (fun cs st' => K (st'.put s (.agg cs))) (tag _)):=o_bd (by kernel_rfl) ia96 zp96 zo96 (by kernel_rfl)
theorem bd96_0 {st : St} {cs : List DV} {x : Operand} {r : List (Nat × Operand)} {F : List DV→St→Prop} : buildD pp fs96 ((0,x) :: r) cs st F = bdk 0 1 cs (take pp st 9 x) (hold (fun cs st => buildD pp fs96 r cs st F) (tag _)):=bd_cons (by kernel_rfl) cn9
theorem bd96_1 {st : St} {cs : List DV} {x : Operand} {r : List (Nat × Operand)} {F : List DV→St→Prop} : buildD pp fs96 ((1,x) :: r) cs st F = bdk 1 1 cs (take pp st 9 x) (hold (fun cs st => buildD pp fs96 r cs st F) (tag _)):=bd_cons (by kernel_rfl) cn9
noncomputable def fs114 : Array Field:=match pp.underlying 114 with | some (.struct fs) => fs | _ => #[]
theorem zp114 {isObj : ObjT} : zeroDVo pp isObj 6 114 = [.nilp,.nilp,.nilmap,.nilp,.int .i64 0,.int .i64 0,.nilmap]:=by kernel_rfl
theorem bd114 {isObj : ObjT} {Γ : Env} {s : Nat} {t : TypeId} {p : String} {af : Array Edge} {g : Option (Nat × Bool)} {parts : List (Nat × Operand)} {st : St} {K : St→Prop} : dopC pp isObj Γ (hold ⟨some s,.build 114 parts.toArray,t,p,af,g⟩ (tag _)) st K = buildD pp fs114 parts [.nilp,.nilp,.nilmap,.nilp,.int .i64 0,.int .i64 0,.nilmap] (st.put s .undef) (hold (fun cs st' => K (st'.put s (.agg cs))) (tag _)):=o_bd (by kernel_rfl) ia114 zp114 zo114 (by kernel_rfl)
theorem bd114_0 {st : St} {cs : List DV} {x : Operand} {r : List (Nat × Operand)} {F : List DV→St→Prop} : buildD pp fs114 ((0,x) :: r) cs st F = bdk 0 1 cs (take pp st 27 x) (hold (fun cs st => buildD pp fs114 r cs st F) (tag _)):=bd_cons (by kernel_rfl) cn27
theorem bd114_1 {st : St} {cs : List DV} {x : Operand} {r : List (Nat × Operand)} {F : List DV→St→Prop} : buildD pp fs114 ((1,x) :: r) cs st F = bdk 1 1 cs (take pp st 106 x) (hold (fun cs st => buildD pp fs114 r cs st F) (tag _)):=bd_cons (by kernel_rfl) cn106
theorem bd114_2 {st : St} {cs : List DV} {x : Operand} {r : List (Nat × Operand)} {F : List DV→St→Prop} : buildD pp fs114 ((2,x) :: r) cs st F = bdk 2 1 cs (take pp st 109 x) (hold (fun cs st => buildD pp fs114 r cs st F) (tag _)):=bd_cons (by kernel_rfl) cn109
theorem bd114_3 {st : St} {cs : List DV} {x : Operand} {r : List (Nat × Operand)} {F : List DV→St→Prop} : buildD pp fs114 ((3,x) :: r) cs st F = bdk 3 1 cs (take pp st 110 x) (hold (fun cs st => buildD pp fs114 r cs st F) (tag _)):=bd_cons (by kernel_rfl) cn110
theorem bd114_4 {st : St} {cs : List DV} {x : Operand} {r : List (Nat × Operand)} {F : List DV→St→Prop} : buildD pp fs114 ((4,x) :: r) cs st F = bdk 4 1 cs (take pp st 3 x) (hold (fun cs st => buildD pp fs114 r cs st F) (tag _)):=bd_cons (by kernel_rfl) cn3
theorem bd114_5 {st : St} {cs : List DV} {x : Operand} {r : List (Nat × Operand)} {F : List DV→St→Prop} : buildD pp fs114 ((5,x) :: r) cs st F = bdk 5 1 cs (take pp st 3 x) (hold (fun cs st => buildD pp fs114 r cs st F) (tag _)):=bd_cons (by kernel_rfl) cn3
theorem bd114_6 {st : St} {cs : List DV} {x : Operand} {r : List (Nat × Operand)} {F : List DV→St→Prop} : buildD pp fs114 ((6,x) :: r) cs st F = bdk 6 1 cs (take pp st 112 x) (hold (fun cs st => buildD pp fs114 r cs st F) (tag _)):=bd_cons (by kernel_rfl) cn112
noncomputable def fs120 : Array Field:=match pp.underlying 120 with | some (.struct fs) => fs | _ => #[]
theorem zg120 {b118 : Bool} : zeroOk pp 120 [.nilmap,.nilmap,nz b118 3,.int .i64 0] = true:=by
 cases b118 <;> kernel_rfl
theorem zp120 {isObj : ObjT} : zeroDVo pp isObj 6 120 = [.nilmap,.nilmap,nz (isObj 118) 3,.int .i64 0]:=by kernel_rfl
theorem bd120 {isObj : ObjT} {Γ : Env} {s : Nat} {t : TypeId} {p : String} {af : Array Edge} {g : Option (Nat × Bool)} {parts : List (Nat × Operand)} {st : St} {K : St→Prop} : dopC pp isObj Γ (hold ⟨some s,.build 120 parts.toArray,t,p,af,g⟩ (tag _)) st K = buildD pp fs120 parts [.nilmap,.nilmap,nz (isObj 118) 3,.int .i64 0] (st.put s .undef) (hold (fun cs st' => K (st'.put s (.agg cs))) (tag _)):=o_bd (by kernel_rfl) ia120 zp120 zg120 (by kernel_rfl)
theorem bd120_0 {st : St} {cs : List DV} {x : Operand} {r : List (Nat × Operand)} {F : List DV→St→Prop} : buildD pp fs120 ((0,x) :: r) cs st F = bdk 0 1 cs (take pp st 117 x) (hold (fun cs st => buildD pp fs120 r cs st F) (tag _)):=bd_cons (by kernel_rfl) cn117
theorem bd120_1 {st : St} {cs : List DV} {x : Operand} {r : List (Nat × Operand)} {F : List DV→St→Prop} : buildD pp fs120 ((1,x) :: r) cs st F = bdk 1 1 cs (take pp st 117 x) (hold (fun cs st => buildD pp fs120 r cs st F) (tag _)):=bd_cons (by kernel_rfl) cn117
noncomputable def fs128 : Array Field:=match pp.underlying 128 with | some (.struct fs) => fs | _ => #[]
theorem zp128 {isObj : ObjT} : zeroDVo pp isObj 6 128 = [.nilp,.int .i64 0,.bool false]:=by kernel_rfl
theorem bd128 {isObj : ObjT} {Γ : Env} {s : Nat} {t : TypeId} {p : String} {af : Array Edge} {g : Option (Nat × Bool)} {parts : List (Nat × Operand)} {st : St} {K : St→Prop} : dopC pp isObj Γ (hold ⟨some s,.build 128 parts.toArray,t,p,af,g⟩ (tag _)) st K = buildD pp fs128 parts [.nilp,.int .i64 0,.bool false] (st.put s .undef) (hold (fun cs st' => K (st'.put s (.agg cs))) (tag _)):=o_bd (by kernel_rfl) ia128 zp128 zo128 (by kernel_rfl)
theorem bd128_0 {st : St} {cs : List DV} {x : Operand} {r : List (Nat × Operand)} {F : List DV→St→Prop} : buildD pp fs128 ((0,x) :: r) cs st F = bdk 0 1 cs (take pp st 23 x) (hold (fun cs st => buildD pp fs128 r cs st F) (tag _)):=bd_cons (by kernel_rfl) cn23
theorem bd128_1 {st : St} {cs : List DV} {x : Operand} {r : List (Nat × Operand)} {F : List DV→St→Prop} : buildD pp fs128 ((1,x) :: r) cs st F = bdk 1 1 cs (take pp st 3 x) (hold (fun cs st => buildD pp fs128 r cs st F) (tag _)):=bd_cons (by kernel_rfl) cn3
theorem bd128_2 {st : St} {cs : List DV} {x : Operand} {r : List (Nat × Operand)} {F : List DV→St→Prop} : buildD pp fs128 ((2,x) :: r) cs st F = bdk 2 1 cs (take pp st 4 x) (hold (fun cs st => buildD pp fs128 r cs st F) (tag _)):=bd_cons (by kernel_rfl) cn4
noncomputable def fs134 : Array Field:=match pp.underlying 134 with | some (.struct fs) => fs | _ => #[]
theorem zp134 {isObj : ObjT} : zeroDVo pp isObj 6 134 = [.int .i64 0,.str [],.str []]:=by kernel_rfl
theorem bd134 {isObj : ObjT} {Γ : Env} {s : Nat} {t : TypeId} {p : String} {af : Array Edge} {g : Option (Nat × Bool)} {parts : List (Nat × Operand)} {st : St} {K : St→Prop} : dopC pp isObj Γ (hold ⟨some s,.build 134 parts.toArray,t,p,af,g⟩ (tag _)) st K = buildD pp fs134 parts [.int .i64 0,.str [],.str []] (st.put s .undef) (hold (fun cs st' => K (st'.put s (.agg cs))) (tag _)):=o_bd (by kernel_rfl) ia134 zp134 zo134 (by kernel_rfl)
theorem bd134_0 {st : St} {cs : List DV} {x : Operand} {r : List (Nat × Operand)} {F : List DV→St→Prop} : buildD pp fs134 ((0,x) :: r) cs st F = bdk 0 1 cs (take pp st 3 x) (hold (fun cs st => buildD pp fs134 r cs st F) (tag _)):=bd_cons (by kernel_rfl) cn3
theorem bd134_1 {st : St} {cs : List DV} {x : Operand} {r : List (Nat × Operand)} {F : List DV→St→Prop} : buildD pp fs134 ((1,x) :: r) cs st F = bdk 1 1 cs (take pp st 9 x) (hold (fun cs st => buildD pp fs134 r cs st F) (tag _)):=bd_cons (by kernel_rfl) cn9
theorem bd134_2 {st : St} {cs : List DV} {x : Operand} {r : List (Nat × Operand)} {F : List DV→St→Prop} : buildD pp fs134 ((2,x) :: r) cs st F = bdk 2 1 cs (take pp st 9 x) (hold (fun cs st => buildD pp fs134 r cs st F) (tag _)):=bd_cons (by kernel_rfl) cn9
noncomputable def fs138 : Array Field:=match pp.underlying 138 with | some (.struct fs) => fs | _ => #[]
theorem bd138 {isObj : ObjT} {Γ : Env} {s : Nat} {t : TypeId} {p : String} {af : Array Edge} {g : Option (Nat × Bool)} {parts : List (Nat × Operand)} {st : St} {K : St→Prop} : dopC pp isObj Γ (hold ⟨some s,.build 138 parts.toArray,t,p,af,g⟩ (tag _)) st K = buildD pp fs138 parts [.str [],.int .i64 0,.bool false,.str []] (st.put s .undef) (hold (fun cs st' => K (st'.put s (.agg cs))) (tag _)):=o_bd (by kernel_rfl) ia138 zp138 zo138 (by kernel_rfl)
theorem bd138_0 {st : St} {cs : List DV} {x : Operand} {r : List (Nat × Operand)} {F : List DV→St→Prop} : buildD pp fs138 ((0,x) :: r) cs st F = bdk 0 1 cs (take pp st 9 x) (hold (fun cs st => buildD pp fs138 r cs st F) (tag _)):=bd_cons (by kernel_rfl) cn9
theorem bd138_1 {st : St} {cs : List DV} {x : Operand} {r : List (Nat × Operand)} {F : List DV→St→Prop} : buildD pp fs138 ((1,x) :: r) cs st F = bdk 1 1 cs (take pp st 3 x) (hold (fun cs st => buildD pp fs138 r cs st F) (tag _)):=bd_cons (by kernel_rfl) cn3
theorem bd138_2 {st : St} {cs : List DV} {x : Operand} {r : List (Nat × Operand)} {F : List DV→St→Prop} : buildD pp fs138 ((2,x) :: r) cs st F = bdk 2 1 cs (take pp st 4 x) (hold (fun cs st => buildD pp fs138 r cs st F) (tag _)):=bd_cons (by kernel_rfl) cn4
theorem bd138_3 {st : St} {cs : List DV} {x : Operand} {r : List (Nat × Operand)} {F : List DV→St→Prop} : buildD pp fs138 ((3,x) :: r) cs st F = bdk 3 1 cs (take pp st 9 x) (hold (fun cs st => buildD pp fs138 r cs st F) (tag _)):=bd_cons (by kernel_rfl) cn9
noncomputable def fs143 : Array Field:=match pp.underlying 143 with | some (.struct fs) => fs | _ => #[]
theorem zg143 {b33 b67 : Bool} : zeroOk pp 143 [.nilp,.nilp,.int .u8 0,nz b67 5,nz b33 3,.bool false] = true:=by
 cases b33 <;> cases b67 <;> kernel_rfl
theorem zp143 {isObj : ObjT} : zeroDVo pp isObj 6 143 = [.nilp,.nilp,.int .u8 0,nz (isObj 67) 5,nz (isObj 33) 3,.bool false]:=by kernel_rfl
theorem bd143 {isObj : ObjT} {Γ : Env} {s : Nat} {t : TypeId} {p : String} {af : Array Edge} {g : Option (Nat × Bool)} {parts : List (Nat × Operand)} {st : St} {K : St→Prop} : dopC pp isObj Γ (hold ⟨some s,.build 143 parts.toArray,t,p,af,g⟩ (tag _)) st K = buildD pp fs143 parts [.nilp,.nilp,.int .u8 0,nz (isObj 67) 5,nz (isObj 33) 3,.bool false] (st.put s .undef) (hold (fun cs st' => K (st'.put s (.agg cs))) (tag _)):=o_bd (by kernel_rfl) ia143 zp143 zg143 (by kernel_rfl)
theorem bd143_0 {st : St} {cs : List DV} {x : Operand} {r : List (Nat × Operand)} {F : List DV→St→Prop} : buildD pp fs143 ((0,x) :: r) cs st F = bdk 0 1 cs (take pp st 23 x) (hold (fun cs st => buildD pp fs143 r cs st F) (tag _)):=bd_cons (by kernel_rfl) cn23
theorem bd143_1 {st : St} {cs : List DV} {x : Operand} {r : List (Nat × Operand)} {F : List DV→St→Prop} : buildD pp fs143 ((1,x) :: r) cs st F = bdk 1 1 cs (take pp st 34 x) (hold (fun cs st => buildD pp fs143 r cs st F) (tag _)):=bd_cons (by kernel_rfl) cn34
theorem bd143_2 {st : St} {cs : List DV} {x : Operand} {r : List (Nat × Operand)} {F : List DV→St→Prop} : buildD pp fs143 ((2,x) :: r) cs st F = bdk 2 1 cs (take pp st 5 x) (hold (fun cs st => buildD pp fs143 r cs st F) (tag _)):=bd_cons (by kernel_rfl) cn5
noncomputable def fs148 : Array Field:=match pp.underlying 148 with | some (.struct fs) => fs | _ => #[]
theorem bd148 {isObj : ObjT} {Γ : Env} {s : Nat} {t : TypeId} {p : String} {af : Array Edge} {g : Option (Nat × Bool)} {parts : List (Nat × Operand)} {st : St} {K : St→Prop} : dopC pp isObj Γ (hold ⟨some s,.build 148 parts.toArray,t,p,af,g⟩ (tag _)) st K = buildD pp fs148 parts [.int .i64 0,.bool false,.str [],.str [],nz (isObj 64) 2] (st.put s .undef) (hold (fun cs st' => K (st'.put s (.agg cs))) (tag _)):=o_bd (by kernel_rfl) ia148 zp148 zg148 (by kernel_rfl)
theorem bd148_0 {st : St} {cs : List DV} {x : Operand} {r : List (Nat × Operand)} {F : List DV→St→Prop} : buildD pp fs148 ((0,x) :: r) cs st F = bdk 0 1 cs (take pp st 3 x) (hold (fun cs st => buildD pp fs148 r cs st F) (tag _)):=bd_cons (by kernel_rfl) cn3
theorem bd148_2 {st : St} {cs : List DV} {x : Operand} {r : List (Nat × Operand)} {F : List DV→St→Prop} : buildD pp fs148 ((2,x) :: r) cs st F = bdk 2 1 cs (take pp st 9 x) (hold (fun cs st => buildD pp fs148 r cs st F) (tag _)):=bd_cons (by kernel_rfl) cn9
noncomputable def fs167 : Array Field:=match pp.underlying 167 with | some (.struct fs) => fs | _ => #[]
theorem bd167 {isObj : ObjT} {Γ : Env} {s : Nat} {t : TypeId} {p : String} {af : Array Edge} {g : Option (Nat × Bool)} {parts : List (Nat × Operand)} {st : St} {K : St→Prop} : dopC pp isObj Γ (hold ⟨some s,.build 167 parts.toArray,t,p,af,g⟩ (tag _)) st K = buildD pp fs167 parts [nz (isObj 99) 1,nz (isObj 131) 5,.int .i64 0,.int .i64 0] (st.put s .undef) (hold (fun cs st' => K (st'.put s (.agg cs))) (tag _)):=o_bd (by kernel_rfl) ia167 zp167 zg167 (by kernel_rfl)
theorem bd167_2 {st : St} {cs : List DV} {x : Operand} {r : List (Nat × Operand)} {F : List DV→St→Prop} : buildD pp fs167 ((2,x) :: r) cs st F = bdk 2 1 cs (take pp st 3 x) (hold (fun cs st => buildD pp fs167 r cs st F) (tag _)):=bd_cons (by kernel_rfl) cn3
noncomputable def fs189 : Array Field:=match pp.underlying 189 with | some (.struct fs) => fs | _ => #[]
theorem zg189 {b125 : Bool} : zeroOk pp 189 [nz b125 4,.int .i64 0] = true:=by
 cases b125 <;> kernel_rfl
theorem zp189 {isObj : ObjT} : zeroDVo pp isObj 6 189 = [nz (isObj 125) 4,.int .i64 0]:=by kernel_rfl
theorem bd189 {isObj : ObjT} {Γ : Env} {s : Nat} {t : TypeId} {p : String} {af : Array Edge} {g : Option (Nat × Bool)} {parts : List (Nat × Operand)} {st : St} {K : St→Prop} : dopC pp isObj Γ (hold ⟨some s,.build 189 parts.toArray,t,p,af,g⟩ (tag _)) st K = buildD pp fs189 parts [nz (isObj 125) 4,.int .i64 0] (st.put s .undef) (hold (fun cs st' => K (st'.put s (.agg cs))) (tag _)):=o_bd (by kernel_rfl) ia189 zp189 zg189 (by kernel_rfl)
noncomputable def fs191 : Array Field:=match pp.underlying 191 with | some (.struct fs) => fs | _ => #[]
theorem zg191 {b131 : Bool} : zeroOk pp 191 [nz b131 5,.int .i64 0,.int .i64 0,.int .i64 0] = true:=by
 cases b131 <;> kernel_rfl
theorem zp191 {isObj : ObjT} : zeroDVo pp isObj 6 191 = [nz (isObj 131) 5,.int .i64 0,.int .i64 0,.int .i64 0]:=by kernel_rfl
theorem bd191 {isObj : ObjT} {Γ : Env} {s : Nat} {t : TypeId} {p : String} {af : Array Edge} {g : Option (Nat × Bool)} {parts : List (Nat × Operand)} {st : St} {K : St→Prop} : dopC pp isObj Γ (hold ⟨some s,.build 191 parts.toArray,t,p,af,g⟩ (tag _)) st K = buildD pp fs191 parts [nz (isObj 131) 5,.int .i64 0,.int .i64 0,.int .i64 0] (st.put s .undef) (hold (fun cs st' => K (st'.put s (.agg cs))) (tag _)):=o_bd (by kernel_rfl) ia191 zp191 zg191 (by kernel_rfl)
theorem bd191_1 {st : St} {cs : List DV} {x : Operand} {r : List (Nat × Operand)} {F : List DV→St→Prop} : buildD pp fs191 ((1,x) :: r) cs st F = bdk 1 1 cs (take pp st 3 x) (hold (fun cs st => buildD pp fs191 r cs st F) (tag _)):=bd_cons (by kernel_rfl) cn3
theorem bd191_3 {st : St} {cs : List DV} {x : Operand} {r : List (Nat × Operand)} {F : List DV→St→Prop} : buildD pp fs191 ((3,x) :: r) cs st F = bdk 3 1 cs (take pp st 3 x) (hold (fun cs st => buildD pp fs191 r cs st F) (tag _)):=bd_cons (by kernel_rfl) cn3
theorem eg96 {a0 b0 : List UInt8} {a1 b1 : List UInt8} : eqAgg pp (pp.fieldsOf 96).toList [.str a0,.str a1] [.str b0,.str b1] = some (decide (a0 = b0) && (decide (a1 = b1) && true)):=by
 have h : (pp.fieldsOf 96).toList = (match pp.underlying 96 with | some (.struct fs) => fs.toList | _ => []):=by kernel_rfl
 rw [h,Go.Proofs.Tryz.underlying96]
 simp [eqAgg,Go.Proofs.Tryz.underlying9]
theorem eneq96 {a0 b0 : List UInt8} {a1 b1 : List UInt8} {K : DV→Prop} : dbin pp .neq 96 (.agg [.str a0,.str a1]) (.agg [.str b0,.str b1]) K = K (.bool (!(decide (a0 = b0) && (decide (a1 = b1) && true)))):=ag_neq (by kernel_rfl) (by kernel_rfl) (by kernel_rfl) eg96
theorem kt3 {i : Int} : keyT pp 3 (.int .i64 i) = True:=kt_int Go.Proofs.Tryz.underlying3
theorem lf3 {r : Option DV} {K : DV→Prop} : lookFin pp 3 false K r = K ((r.map DV.ro).getD (.int .i64 0)):=lfin_f (by rw [zd3_4]; exact zo3) (by rw [zd3_4,oc3]; rfl)
theorem lt9 {r : Option DV} {K : DV→Prop} : lookFin pp 9 true K r = K (.tup [(r.map DV.ro).getD (.str []),.bool r.isSome]):=lfin_t (by rw [zd9_4]; exact zo9) (by rw [zd9_4,oc9]; rfl)
theorem lf9 {r : Option DV} {K : DV→Prop} : lookFin pp 9 false K r = K ((r.map DV.ro).getD (.str [])):=lfin_f (by rw [zd9_4]; exact zo9) (by rw [zd9_4,oc9]; rfl)
theorem kt9 {s : List UInt8} : keyT pp 9 (.str s) = True:=keyT_str Go.Proofs.Tryz.underlying9
theorem mk36 {isObj : ObjT} {Γ : Env} {s : Nat} {t : TypeId} {p : String} {af : Array Edge} {g : Option (Nat × Bool)} {st : St} {K : St→Prop} {x y : Operand} : dopC pp isObj Γ (hold ⟨some s,.makeSlice 36 x y,t,p,af,g⟩ (tag _)) st K = mkS (isObj 36) 1 1 s [.int .u8 0] (.int .u8 0) (rho pp st 3 x) (rho pp st 3 y) st K:=o_mk Go.Proofs.Tryz.underlying36 cn5 (by decide) bn5 (by rw [zd5_4]; exact zo5) (by rw [zd5_4]; rfl) (by rw [zd5_4]; rfl) (by simp [ofCells,ia5])
theorem mk154 {isObj : ObjT} {Γ : Env} {s : Nat} {t : TypeId} {p : String} {af : Array Edge} {g : Option (Nat × Bool)} {st : St} {K : St→Prop} {x y : Operand} : dopC pp isObj Γ (hold ⟨some s,.makeSlice 154 x y,t,p,af,g⟩ (tag _)) st K = mkS (isObj 154) 1 24 s [.sl false 4 []] (.sl false 4 []) (rho pp st 3 x) (rho pp st 3 y) st K:=o_mk Go.Proofs.Tryz.underlying154 cn125 (by decide) bn125 (by rw [zd125_4]; exact zo125) (by rw [zd125_4]; rfl) (by rw [zd125_4]; rfl) (by simp [ofCells,ia125])
theorem mk202 {isObj : ObjT} {Γ : Env} {s : Nat} {t : TypeId} {p : String} {af : Array Edge} {g : Option (Nat × Bool)} {st : St} {K : St→Prop} {x y : Operand} : dopC pp isObj Γ (hold ⟨some s,.makeSlice 202 x y,t,p,af,g⟩ (tag _)) st K = mkS (isObj 202) 1 8 s [.int .i64 0] (.int .i64 0) (rho pp st 3 x) (rho pp st 3 y) st K:=o_mk Go.Proofs.Tryz.underlying202 cn24 (by decide) bn24 (by rw [zd24_4]; exact zo24) (by rw [zd24_4]; rfl) (by rw [zd24_4]; rfl) (by simp [ofCells,ia24])
theorem mc217 {isObj : ObjT} {Γ : Env} {s : Nat} {t : TypeId} {p : String} {af : Array Edge} {g : Option (Nat × Bool)} {st : St} {K : St→Prop} {x : Operand} : dopC pp isObj Γ (hold ⟨some s,.makeChan 217 x,t,p,af,g⟩ (tag _)) st K = mkC pp 40 s (rho pp st 3 x) st K:=o_mc Go.Proofs.Tryz.underlying217 (by kernel_rfl) (by kernel_rfl)
theorem mc218 {isObj : ObjT} {Γ : Env} {s : Nat} {t : TypeId} {p : String} {af : Array Edge} {g : Option (Nat × Bool)} {st : St} {K : St→Prop} {x : Operand} : dopC pp isObj Γ (hold ⟨some s,.makeChan 218 x,t,p,af,g⟩ (tag _)) st K = mkC pp 8 s (rho pp st 3 x) st K:=o_mc Go.Proofs.Tryz.underlying218 (by kernel_rfl) (by kernel_rfl)
theorem ov256 : isOver pp 256 = True:=eq_true ⟨_,125,4,_,Go.Proofs.Tryz.func256,by kernel_rfl,by kernel_rfl,by kernel_rfl,by kernel_rfl,Go.Proofs.Tryz.underlying125,by kernel_rfl⟩
end Go.Ab.En
