/- A part of the proof; no condition of its own. -/
import Derived.Shelf.SlGeneric
import Derived.Shelf.SlicesE.Clone
import Derived.Ground.SlgnProg
import Derived.Test.YtoebbafmopdfbaaGreatDoorProg
import Derived.Laws.Cover1
import Derived.OwnWalk
import Derived.Test.YtoebbafmopdfbaaGreatDoorEnCI
set_option linter.unusedSimpArgs false
set_option linter.unusedVariables false
namespace Go.Ab.En
open Go Go.Conc Go.RowKit Go.Ab
theorem bn33 : pp.bytesOf 33 = 24:=by kernel_rfl
theorem zi33 : (pp.info? 33).any (·.zero.isSome) = true:=by kernel_rfl
theorem zd33_4 : zeroDV pp 4 33 = [.sl true 3 []]:=by kernel_rfl
theorem zo33 : zeroOk pp 33 [.sl true 3 []] = true:=by kernel_rfl
theorem ia48 : isAggT pp 48 = false:=by kernel_rfl
theorem cn48 : pp.cellsOf 48 = 1:=by kernel_rfl
theorem us48 : (pp.underlying 48).isSome = true:=by kernel_rfl
theorem la48 {c : DV} {r : List DV} {K : DV→Prop} : loadAs pp 48 (c :: r) K = K c.ro:=la_cell ia48 us48
theorem ia56 : isAggT pp 56 = false:=by kernel_rfl
theorem cn56 : pp.cellsOf 56 = 1:=by kernel_rfl
theorem us56 : (pp.underlying 56).isSome = true:=by kernel_rfl
theorem la56 {c : DV} {r : List DV} {K : DV→Prop} : loadAs pp 56 (c :: r) K = K c.ro:=la_cell ia56 us56
theorem ia57 : isAggT pp 57 = false:=by kernel_rfl
theorem cn57 : pp.cellsOf 57 = 1:=by kernel_rfl
theorem us57 : (pp.underlying 57).isSome = true:=by kernel_rfl
theorem la57 {c : DV} {r : List DV} {K : DV→Prop} : loadAs pp 57 (c :: r) K = K c.ro:=la_cell ia57 us57
theorem ia59 : isAggT pp 59 = true:=by kernel_rfl
theorem ia60 : isAggT pp 60 = true:=by kernel_rfl
theorem ft60 : funT pp 60 = false:=by kernel_rfl
theorem zo60 : zeroOk pp 60 [.nilp,.nilp,.nilp,.nilp] = true:=by kernel_rfl
theorem oc60 : ofCells pp 60 [.nilp,.nilp,.nilp,.nilp] = (.agg [.nilp,.nilp,.nilp,.nilp]):=by simp [ofCells,ia60]
theorem ia62 : isAggT pp 62 = true:=by kernel_rfl
theorem cn62 : pp.cellsOf 62 = 5:=by kernel_rfl
theorem us62 : (pp.underlying 62).isSome = true:=by kernel_rfl
theorem ft62 : funT pp 62 = false:=by kernel_rfl
theorem zo62 : zeroOk pp 62 [.int .i64 0,.int .i64 0,.int .u8 0,.str [],.str []] = true:=by kernel_rfl
theorem oc62 : ofCells pp 62 [.int .i64 0,.int .i64 0,.int .u8 0,.str [],.str []] = (.agg [.int .i64 0,.int .i64 0,.int .u8 0,.str [],.str []]):=by simp [ofCells,ia62]
theorem la62 {cs : List DV} {K : DV→Prop} : loadAs pp 62 cs K = (5≤cs.length∧K (.agg ((cs.take 5).map DV.ro1))):=by rw [la_agg ia62,cn62]
theorem ia73 : isAggT pp 73 = true:=by kernel_rfl
theorem ft96 : funT pp 96 = false:=by kernel_rfl
theorem oc96 : ofCells pp 96 [.str [],.str []] = (.agg [.str [],.str []]):=by simp [ofCells,ia96]
theorem zp60 {isObj : ObjT} : zeroDVo pp isObj 6 60 = [.nilp,.nilp,.nilp,.nilp]:=by kernel_rfl
theorem al60 {isObj : ObjT} {Γ : Env} {s : Nat} {t : TypeId} {p : String} {af : Array Edge} {g : Option (Nat × Bool)} {st : St} {K : St→Prop} : dopC pp isObj Γ (hold ⟨some s,.alloc 60,t,p,af,g⟩ (tag _)) st K = K (newVarD isObj st s 60 (.agg [.nilp,.nilp,.nilp,.nilp])):=by rw [o_al ft60 zp60 zo60 (by rw [oc60]; rfl),oc60]
theorem zp62 {isObj : ObjT} : zeroDVo pp isObj 6 62 = [.int .i64 0,.int .i64 0,.int .u8 0,.str [],.str []]:=by kernel_rfl
theorem al62 {isObj : ObjT} {Γ : Env} {s : Nat} {t : TypeId} {p : String} {af : Array Edge} {g : Option (Nat × Bool)} {st : St} {K : St→Prop} : dopC pp isObj Γ (hold ⟨some s,.alloc 62,t,p,af,g⟩ (tag _)) st K = K (newVarD isObj st s 62 (.agg [.int .i64 0,.int .i64 0,.int .u8 0,.str [],.str []])):=by rw [o_al ft62 zp62 zo62 (by rw [oc62]; rfl),oc62]
theorem al96 {isObj : ObjT} {Γ : Env} {s : Nat} {t : TypeId} {p : String} {af : Array Edge} {g : Option (Nat × Bool)} {st : St} {K : St→Prop} : dopC pp isObj Γ (hold ⟨some s,.alloc 96,t,p,af,g⟩ (tag _)) st K = K (newVarD isObj st s 96 (.agg [.str [],.str []])):=by rw [o_al ft96 zp96 zo96 (by rw [oc96]; rfl),oc96]
theorem fp32_0 {i o : Nat} {K : DV→Prop} : dfieldAddr pp 32 (.ptr i o) 0 K = K (.ptr i (o + 0)):=by
 have h:=fa_ptr (P:=pp) (K:=K) (i:=i) (o:=o) Go.Proofs.Tryz.underlying32 (f:=0) rfl
 exact h (by show pp.cellsOf 9 ≠ 0; rw [cn9]; decide)
theorem fv32_0 {cs : List DV} {K : DV→Prop} : dfieldAddr pp 32 (.vptr cs) 0 K = K (.vptr (cs.drop 0)):=by
 have h:=fa_vptr (P:=pp) (K:=K) (cs:=cs) Go.Proofs.Tryz.underlying32 (f:=0) rfl
 exact h (by show pp.cellsOf 9 ≠ 0; rw [cn9]; decide)
theorem fv32_1 {cs : List DV} {K : DV→Prop} : dfieldAddr pp 32 (.vptr cs) 1 K = K (.vptr (cs.drop 1)):=by
 have h:=fa_vptr (P:=pp) (K:=K) (cs:=cs) Go.Proofs.Tryz.underlying32 (f:=1) rfl
 exact h (by show pp.cellsOf 4 ≠ 0; rw [cn4]; decide)
theorem fv32_2 {cs : List DV} {K : DV→Prop} : dfieldAddr pp 32 (.vptr cs) 2 K = K (.vptr (cs.drop 2)):=by
 have h:=fa_vptr (P:=pp) (K:=K) (cs:=cs) Go.Proofs.Tryz.underlying32 (f:=2) rfl
 exact h (by show pp.cellsOf 9 ≠ 0; rw [cn9]; decide)
theorem fp59_0 {i o : Nat} {K : DV→Prop} : dfieldAddr pp 59 (.ptr i o) 0 K = K (.ptr i (o + 0)):=by
 have h:=fa_ptr (P:=pp) (K:=K) (i:=i) (o:=o) Go.Proofs.Tryz.underlying59 (f:=0) rfl
 exact h (by show pp.cellsOf 57 ≠ 0; rw [cn57]; decide)
theorem fl62_0 {s g o : Nat} {K : DV→Prop} : dfieldAddr pp 62 (.lptr s g o) 0 K = K (.lptr s g (o + 0)):=by
 have h:=fa_lptr (P:=pp) (K:=K) (s:=s) (g:=g) (o:=o) Go.Proofs.Tryz.underlying62 (f:=0) rfl
 exact h (by show pp.cellsOf 3 ≠ 0; rw [cn3]; decide)
theorem fv62_0 {cs : List DV} {K : DV→Prop} : dfieldAddr pp 62 (.vptr cs) 0 K = K (.vptr (cs.drop 0)):=by
 have h:=fa_vptr (P:=pp) (K:=K) (cs:=cs) Go.Proofs.Tryz.underlying62 (f:=0) rfl
 exact h (by show pp.cellsOf 3 ≠ 0; rw [cn3]; decide)
theorem fv62_1 {cs : List DV} {K : DV→Prop} : dfieldAddr pp 62 (.vptr cs) 1 K = K (.vptr (cs.drop 1)):=by
 have h:=fa_vptr (P:=pp) (K:=K) (cs:=cs) Go.Proofs.Tryz.underlying62 (f:=1) rfl
 exact h (by show pp.cellsOf 3 ≠ 0; rw [cn3]; decide)
theorem fl62_3 {s g o : Nat} {K : DV→Prop} : dfieldAddr pp 62 (.lptr s g o) 3 K = K (.lptr s g (o + 3)):=by
 have h:=fa_lptr (P:=pp) (K:=K) (s:=s) (g:=g) (o:=o) Go.Proofs.Tryz.underlying62 (f:=3) rfl
 exact h (by show pp.cellsOf 9 ≠ 0; rw [cn9]; decide)
theorem fv62_3 {cs : List DV} {K : DV→Prop} : dfieldAddr pp 62 (.vptr cs) 3 K = K (.vptr (cs.drop 3)):=by
 have h:=fa_vptr (P:=pp) (K:=K) (cs:=cs) Go.Proofs.Tryz.underlying62 (f:=3) rfl
 exact h (by show pp.cellsOf 9 ≠ 0; rw [cn9]; decide)
theorem fl62_4 {s g o : Nat} {K : DV→Prop} : dfieldAddr pp 62 (.lptr s g o) 4 K = K (.lptr s g (o + 4)):=by
 have h:=fa_lptr (P:=pp) (K:=K) (s:=s) (g:=g) (o:=o) Go.Proofs.Tryz.underlying62 (f:=4) rfl
 exact h (by show pp.cellsOf 9 ≠ 0; rw [cn9]; decide)
theorem fv62_4 {cs : List DV} {K : DV→Prop} : dfieldAddr pp 62 (.vptr cs) 4 K = K (.vptr (cs.drop 4)):=by
 have h:=fa_vptr (P:=pp) (K:=K) (cs:=cs) Go.Proofs.Tryz.underlying62 (f:=4) rfl
 exact h (by show pp.cellsOf 9 ≠ 0; rw [cn9]; decide)
theorem fp73_0 {i o : Nat} {K : DV→Prop} : dfieldAddr pp 73 (.ptr i o) 0 K = K (.ptr i (o + 0)):=by
 have h:=fa_ptr (P:=pp) (K:=K) (i:=i) (o:=o) Go.Proofs.Tryz.underlying73 (f:=0) rfl
 exact h (by show pp.cellsOf 56 ≠ 0; rw [cn56]; decide)
theorem fp73_3 {i o : Nat} {K : DV→Prop} : dfieldAddr pp 73 (.ptr i o) 3 K = K (.ptr i (o + 3)):=by
 have h:=fa_ptr (P:=pp) (K:=K) (i:=i) (o:=o) Go.Proofs.Tryz.underlying73 (f:=3) rfl
 exact h (by show pp.cellsOf 67 ≠ 0; rw [cn67]; decide)
theorem fp73_5 {i o : Nat} {K : DV→Prop} : dfieldAddr pp 73 (.ptr i o) 5 K = K (.ptr i (o + 5)):=by
 have h:=fa_ptr (P:=pp) (K:=K) (i:=i) (o:=o) Go.Proofs.Tryz.underlying73 (f:=5) rfl
 exact h (by show pp.cellsOf 4 ≠ 0; rw [cn4]; decide)
theorem fl96_0 {s g o : Nat} {K : DV→Prop} : dfieldAddr pp 96 (.lptr s g o) 0 K = K (.lptr s g (o + 0)):=by
 have h:=fa_lptr (P:=pp) (K:=K) (s:=s) (g:=g) (o:=o) Go.Proofs.Tryz.underlying96 (f:=0) rfl
 exact h (by show pp.cellsOf 9 ≠ 0; rw [cn9]; decide)
theorem fl96_1 {s g o : Nat} {K : DV→Prop} : dfieldAddr pp 96 (.lptr s g o) 1 K = K (.lptr s g (o + 1)):=by
 have h:=fa_lptr (P:=pp) (K:=K) (s:=s) (g:=g) (o:=o) Go.Proofs.Tryz.underlying96 (f:=1) rfl
 exact h (by show pp.cellsOf 9 ≠ 0; rw [cn9]; decide)
theorem dl54 {n : Nat} {l : List (Nat × DV)} {B : List (Nat × Nat × List DV)} {H : List HObj} {lk : List (Nat × Pos)} {K : DV→Prop} {own : Bool} {sz : Nat} {xs : List DV} : dlen pp (mk n l B H lk) 54 (.sl own sz xs) K = K (.int .i64 xs.length):=dl_sl Go.Proofs.Tryz.underlying54
theorem dl57 {n : Nat} {l : List (Nat × DV)} {B : List (Nat × Nat × List DV)} {H : List HObj} {lk : List (Nat × Pos)} {K : DV→Prop} {own : Bool} {sz : Nat} {xs : List DV} : dlen pp (mk n l B H lk) 57 (.sl own sz xs) K = K (.int .i64 xs.length):=dl_sl Go.Proofs.Tryz.underlying57
theorem dlh64 {n : Nat} {l : List (Nat × DV)} {B : List (Nat × Nat × List DV)} {H : List HObj} {lk : List (Nat × Pos)} {K : DV→Prop} {id sz off len cap : Nat} : dlen pp (mk n l B H lk) 64 (.hsl id sz off len cap) K = K (.int .i64 len):=dl_hsl Go.Proofs.Tryz.underlying64
theorem ix54 {k : IntKind} {i : Int} {own : Bool} {xs : List DV} {K : DV→Prop} : dindexAddr pp 54 (.sl own 5 xs) (.int k i) K = (0≤i∧i < xs.length∧K (.vptr (xs.getD i.toNat .undef).cells)):=ia_sl Go.Proofs.Tryz.underlying54 cn62 us62
theorem ix57 {k : IntKind} {i : Int} {own : Bool} {xs : List DV} {K : DV→Prop} : dindexAddr pp 57 (.sl own 1 xs) (.int k i) K = (0≤i∧i < xs.length∧K (.vptr (xs.getD i.toNat .undef).cells)):=ia_sl Go.Proofs.Tryz.underlying57 cn33 us33
theorem ixl60 {k : IntKind} {i : Int} {s g o : Nat} {K : DV→Prop} : dindexAddr pp 60 (.lptr s g o) (.int k i) K = (0≤i∧i < (4 : Nat)∧K (.lptr s g (o + i.toNat * 1))):=ia_arrl Go.Proofs.Tryz.underlying60 cn48 us48
theorem ixh64 {k : IntKind} {i : Int} {id off len cap : Nat} {K : DV→Prop} : dindexAddr pp 64 (.hsl id 2 off len cap) (.int k i) K = (0≤i∧i < len∧K (.ptr id (off + i.toNat * 2))):=ia_hsl Go.Proofs.Tryz.underlying64 cn96 us96
theorem sc9 {x : List UInt8} {lo hi : Option DV} {K : DV→Prop} : dslice pp 9 (.str x) lo hi K = dbound x.length hi x.length fun h => dbound h lo 0 fun l => K (.str ((x.take h).drop l)):=sl_str Go.Proofs.Tryz.underlying9
theorem sch64 {id off len cap : Nat} {lo hi : Option DV} {K : DV→Prop} : dslice pp 64 (.hsl id 2 off len cap) lo hi K = dbound cap hi len fun h => dbound h lo 0 fun l => K (.hsl id 2 (off + l * 2) (h - l) (cap - l)):=sl_hsl Go.Proofs.Tryz.underlying64 cn96 us96
theorem ap33_33 {st : St} {s : Nat} {x : Operand} {own : Bool} {ys : List DV} {K : St→Prop} : appendD pp st s 33 33 x (.sl own 3 ys) K = apd 3 40 s ys (take pp st 33 x) K:=ap_sl Go.Proofs.Tryz.underlying33 Go.Proofs.Tryz.underlying33 us32 (by decide) cn32 bn32 (by rw [zd32_4]; exact zo32)
theorem apo33_33 {st : St} {s : Nat} {x : Operand} {own : Bool} {sz : Nat} {ys : List DV} {K : St→Prop} : appendObjD pp st s 33 33 x (.sl own sz ys) K = apdO pp 33 3 40 s (.sl own sz ys) (take pp st 33 x) K:=ap_objS Go.Proofs.Tryz.underlying33 us32 (by decide) cn32 bn32 (by rw [zd32_4]; exact zo32)
theorem ap57_57 {st : St} {s : Nat} {x : Operand} {own : Bool} {ys : List DV} {K : St→Prop} : appendD pp st s 57 57 x (.sl own 1 ys) K = apd 1 24 s ys (take pp st 57 x) K:=ap_sl Go.Proofs.Tryz.underlying57 Go.Proofs.Tryz.underlying57 us33 (by decide) cn33 bn33 (by rw [zd33_4]; exact zo33)
theorem apo57_57 {st : St} {s : Nat} {x : Operand} {own : Bool} {sz : Nat} {ys : List DV} {K : St→Prop} : appendObjD pp st s 57 57 x (.sl own sz ys) K = apdO pp 57 1 24 s (.sl own sz ys) (take pp st 57 x) K:=ap_objS Go.Proofs.Tryz.underlying57 us33 (by decide) cn33 bn33 (by rw [zd33_4]; exact zo33)
theorem aph64_64 {st : St} {s : Nat} {x : Operand} {id sz off len cap : Nat} {K : St→Prop} : appendObjD pp st s 64 64 x (.hsl id sz off len cap) K = apdO pp 64 2 32 s (.hsl id sz off len cap) (take pp st 64 x) K:=ap_objH Go.Proofs.Tryz.underlying64 us96 (by decide) cn96 bn96 (by rw [zd96_4]; exact zo96)
theorem bs57_1 {isObj : ObjT} {Γ : Env} {s : Nat} {t : TypeId} {p : String} {af : Array Edge} {g : Option (Nat × Bool)} {st : St} {K : St→Prop} {x : Operand} : dopC pp isObj Γ (hold ⟨some s,.buildSlice 57 1 #[(0,x)],t,p,af,g⟩ (tag _)) st K = bsl (isObj 57) 1 1 s [(rho pp st 33 x).ro] st K:=bs_1 Go.Proofs.Tryz.underlying57 us33 cn33 (by decide) (by decide) zi33
theorem zg59 {b57 : Bool} : zeroOk pp 59 [nz b57 1] = true:=by
 cases b57 <;> kernel_rfl
theorem zp59 {isObj : ObjT} : zeroDVo pp isObj 6 59 = [nz (isObj 57) 1]:=by kernel_rfl
theorem bd59 {isObj : ObjT} {Γ : Env} {s : Nat} {t : TypeId} {p : String} {af : Array Edge} {g : Option (Nat × Bool)} {parts : List (Nat × Operand)} {st : St} {K : St→Prop} : dopC pp isObj Γ (hold ⟨some s,.build 59 parts.toArray,t,p,af,g⟩ (tag _)) st K = buildD pp fs59 parts [nz (isObj 57) 1] (st.put s .undef) (hold (fun cs st' => K (st'.put s (.agg cs))) (tag _)):=o_bd (by kernel_rfl) ia59 zp59 zg59 (by kernel_rfl)
theorem zg73 {b33 b67 : Bool} : zeroOk pp 73 [.nilp,.int .i64 0,.int .u8 0,nz b67 5,nz b33 3,.bool false] = true:=by
 cases b33 <;> cases b67 <;> kernel_rfl
theorem zp73 {isObj : ObjT} : zeroDVo pp isObj 6 73 = [.nilp,.int .i64 0,.int .u8 0,nz (isObj 67) 5,nz (isObj 33) 3,.bool false]:=by kernel_rfl
theorem bd73 {isObj : ObjT} {Γ : Env} {s : Nat} {t : TypeId} {p : String} {af : Array Edge} {g : Option (Nat × Bool)} {parts : List (Nat × Operand)} {st : St} {K : St→Prop} : dopC pp isObj Γ (hold ⟨some s,.build 73 parts.toArray,t,p,af,g⟩ (tag _)) st K = buildD pp fs73 parts [.nilp,.int .i64 0,.int .u8 0,nz (isObj 67) 5,nz (isObj 33) 3,.bool false] (st.put s .undef) (hold (fun cs st' => K (st'.put s (.agg cs))) (tag _)):=o_bd (by kernel_rfl) ia73 zp73 zg73 (by kernel_rfl)
theorem bd73_0 {st : St} {cs : List DV} {x : Operand} {r : List (Nat × Operand)} {F : List DV→St→Prop} : buildD pp fs73 ((0,x) :: r) cs st F = bdk 0 1 cs (take pp st 56 x) (hold (fun cs st => buildD pp fs73 r cs st F) (tag _)):=bd_cons (by kernel_rfl) cn56
theorem bd73_1 {st : St} {cs : List DV} {x : Operand} {r : List (Nat × Operand)} {F : List DV→St→Prop} : buildD pp fs73 ((1,x) :: r) cs st F = bdk 1 1 cs (take pp st 3 x) (hold (fun cs st => buildD pp fs73 r cs st F) (tag _)):=bd_cons (by kernel_rfl) cn3
theorem bd73_2 {st : St} {cs : List DV} {x : Operand} {r : List (Nat × Operand)} {F : List DV→St→Prop} : buildD pp fs73 ((2,x) :: r) cs st F = bdk 2 1 cs (take pp st 5 x) (hold (fun cs st => buildD pp fs73 r cs st F) (tag _)):=bd_cons (by kernel_rfl) cn5
theorem bd148_1 {st : St} {cs : List DV} {x : Operand} {r : List (Nat × Operand)} {F : List DV→St→Prop} : buildD pp fs148 ((1,x) :: r) cs st F = bdk 1 1 cs (take pp st 4 x) (hold (fun cs st => buildD pp fs148 r cs st F) (tag _)):=bd_cons (by kernel_rfl) cn4
theorem bd148_3 {st : St} {cs : List DV} {x : Operand} {r : List (Nat × Operand)} {F : List DV→St→Prop} : buildD pp fs148 ((3,x) :: r) cs st F = bdk 3 1 cs (take pp st 9 x) (hold (fun cs st => buildD pp fs148 r cs st F) (tag _)):=bd_cons (by kernel_rfl) cn9
theorem bd148_4 {st : St} {cs : List DV} {x : Operand} {r : List (Nat × Operand)} {F : List DV→St→Prop} : buildD pp fs148 ((4,x) :: r) cs st F = bdk 4 1 cs (take pp st 64 x) (hold (fun cs st => buildD pp fs148 r cs st F) (tag _)):=bd_cons (by kernel_rfl) cn64
end Go.Ab.En
namespace Go.Proofs
open Go.Shelf
def Tryz.cloneP_lay_ren : Go.Shelf.Ren:=⟨fun | 41 => 92 | n => n,fun | 22 => 64 | 23 => 96 | 4 => 4 | n => n,fun | n => n⟩
theorem Tryz.cloneP_lay : Go.Proofs.SlLaysE0.n41 Tryz.prog Tryz.cloneP_lay_ren:={
 mixed:=by kernel_rfl
 f41:=⟨Tryz.f92.name,by decide,Tryz.func92.trans (congrArg some (by kernel_rfl))⟩
 t4:=Tryz.underlying4
 a4:=Tryz.isAgg4
 z4:=Tryz.sizeOf4
 v4:=Tryz.zeroValue4
 t22:=Tryz.underlying64
 a22:=Tryz.isAgg64
 z22:=Tryz.sizeOf64
 v22:=Tryz.zeroValue64 }
end Go.Proofs
namespace Go.Ab.En
open Go Go.Conc Go.RowKit Go.Ab
theorem dropW_filter {α : Type} {p : α→Bool} : ∀ {l : List α},(l.Pairwise fun x y => p y = true→p x = true)→l.dropWhile p = l.filter fun x => !p x
 | [],_ => rfl
 | x :: r,h => by
  have h1:=List.pairwise_cons.1 h
  cases hx : p x
  ·have : ∀ y∈r,(!p y) = true:=fun y hy => by
    cases hy' : p y
    ·rfl
    ·rw [h1.1 y hy hy'] at hx; cases hx
   rw [List.dropWhile_cons,hx,List.filter_cons,hx]
   simp only [Bool.false_eq_true,if_false,Bool.not_false,if_true]
   rw [List.filter_eq_self.2 this]
  ·rw [List.dropWhile_cons,hx,List.filter_cons,hx]
   simp only [if_true,Bool.not_true,Bool.false_eq_true,if_false]
   exact dropW_filter h1.2
theorem takeW_filter {α : Type} {p : α→Bool} : ∀ {l : List α},(l.Pairwise fun x y => p y = true→p x = true)→l.takeWhile p = l.filter p
 | [],_ => rfl
 | x :: r,h => by
  have h1:=List.pairwise_cons.1 h
  cases hx : p x
  ·have : ∀ y∈r,¬ p y = true:=fun y hy hy' => by
    rw [h1.1 y hy hy'] at hx; cases hx
   rw [List.takeWhile_cons,hx,List.filter_cons,hx]
   simp only [Bool.false_eq_true,if_false]
   exact (List.filter_eq_nil_iff.2 this).symm
  ·rw [List.takeWhile_cons,hx,List.filter_cons,hx]
   simp only [if_true]
   rw [takeW_filter h1.2]
theorem drop_takeW {α : Type} (p : α→Bool) : ∀ l : List α,l.drop (l.takeWhile p).length = l.dropWhile p
 | [] => rfl
 | x :: r => by
  rw [List.takeWhile_cons,List.dropWhile_cons]
  cases hx : p x
  ·simp
  ·simp [drop_takeW p r]
def vizE (es : List Ent) (n : Int) (e : Ent) : Bool:=decide (e.seq≤n) && !e.del && es.all fun x => decide (x.key = e.key→x.seq≤n→x.seq≤e.seq)
theorem viz_iff {es : List Ent} {n : Int} {e : Ent} : vizE es n e = true ↔ e.seq≤n∧e.del = false∧∀ x∈es,x.key = e.key→x.seq≤n→x.seq≤e.seq:=by
 simp only [vizE,Bool.and_eq_true,decide_eq_true_eq,Bool.not_eq_true',List.all_eq_true,and_assoc]
theorem viz_congr {a b : List Ent} {n : Int} {e : Ent} (h : ∀ x,x.key = e.key→(x∈a ↔ x∈b)) : vizE a n e = vizE b n e:=by
 rw [Bool.eq_iff_iff,viz_iff,viz_iff]
 constructor
 ·rintro ⟨h1,h2,h3⟩; exact ⟨h1,h2,fun x hx hk => h3 x ((h x hk).2 hx) hk⟩
 ·rintro ⟨h1,h2,h3⟩; exact ⟨h1,h2,fun x hx hk => h3 x ((h x hk).1 hx) hk⟩
theorem newE_cons (x : Ent) (r : List Ent) (n : Int) : newE (x :: r) n = if x.seq≤n then 0 else newE r n + 1:=by
 simp only [newE,List.takeWhile_cons]
 by_cases h : x.seq≤n
 ·simp [h]
 ·simp [h]
theorem visG_filter (n : Int) (k : Str) : ∀ {g : List Ent},Sorted g→(∀ x∈g,x.key = k)→(visG n g).toList = g.filter (vizE g n)
 | [],_,_ => rfl
 | x :: r,hs,hk => by
  have h1:=List.pairwise_cons.1 hs
  have hkx : x.key = k:=hk x (by simp)
  have hlt : ∀ y∈r,y.seq < x.seq:=fun y hy => by
   rcases ltE_iff.1 (h1.1 y hy) with h | h
   ·rw [hkx,hk y (by simp [hy]),cmpS_refl] at h; omega
   ·exact h.2
  by_cases hx : x.seq≤n
  ·have hr : ∀ y∈r,¬ vizE (x :: r) n y = true:=fun y hy h => by
    have:=(viz_iff.1 h).2.2 x (by simp) (by rw [hkx,hk y (by simp [hy])]) hx
    have:=hlt y hy; omega
   have e0 : visG n (x :: r) = if x.del then none else some x:=by
    simp only [visG,newE_cons,if_pos hx,List.getElem?_cons_zero]
   have ex : vizE (x :: r) n x = !x.del:=by
    rw [Bool.eq_iff_iff,viz_iff]
    refine ⟨fun h => by simp [h.2.1],fun h => ⟨hx,by simpa using h,fun y hy _ _ => ?_⟩⟩
    rcases List.mem_cons.1 hy with rfl | hy
    ·exact Int.le_refl _
    ·have:=hlt y hy; omega
   rw [e0,List.filter_cons,ex,List.filter_eq_nil_iff.2 hr]
   cases x.del <;> rfl
  ·have e0 : visG n (x :: r) = visG n r:=by
    simp only [visG,newE_cons,if_neg hx,List.getElem?_cons_succ]
   have ex : ¬ vizE (x :: r) n x = true:=fun h => hx (viz_iff.1 h).1
   rw [e0,visG_filter n k h1.2 (fun y hy => hk y (by simp [hy])),List.filter_cons,if_neg ex]
   refine List.filter_congr fun y hy => ?_
   rw [Bool.eq_iff_iff,viz_iff,viz_iff]
   refine ⟨fun ⟨a,b,c⟩ => ⟨a,b,fun z hz e1 e2 => ?_⟩,fun ⟨a,b,c⟩ => ⟨a,b,fun z hz => c z (by simp [hz])⟩⟩
   rcases List.mem_cons.1 hz with rfl | hz
   ·exact absurd e2 hx
   ·exact c z hz e1 e2
theorem filterMap_toList {α β : Type} (f : α→Option β) (x : α) (r : List α) : (x :: r).filterMap f = (f x).toList ++ r.filterMap f:=by
 cases h : f x <;> simp [h]
theorem gE_filter (n : Int) : ∀ (f : Nat) {es : List Ent},Sorted es→es.length≤f→(gE f es).filterMap (visG n) = es.filter (vizE es n)
 | 0,es,_,h => by
  obtain rfl : es = []:=List.eq_nil_of_length_eq_zero (by omega)
  rfl
 | f + 1,[],_,_ => rfl
 | f + 1,e :: r,hs,h => by
  have e1 : (e :: r).takeWhile (fun x => decide (x.key = e.key)) ++ (e :: r).dropWhile (fun x => decide (x.key = e.key)) = e :: r:=List.takeWhile_append_dropWhile
  have hdl : ((e :: r).dropWhile fun x => decide (x.key = e.key)).length≤f:=by
   have : ((e :: r).dropWhile fun x => decide (x.key = e.key)).length≤r.length:=by
    simp only [List.dropWhile_cons,decide_true,if_true]
    exact (List.dropWhile_suffix _).length_le
   simp at h; omega
  have hlow : (e :: r).Pairwise fun x y => decide (y.key = e.key) = true→decide (x.key = e.key) = true:=by
   have h1:=List.pairwise_cons.1 hs
   refine List.pairwise_cons.2 ⟨fun y _ _ => by simp,?_⟩
   refine List.Pairwise.imp_of_mem (fun {x y} hx hy hxy hyk => ?_) h1.2
   simp only [decide_eq_true_eq] at hyk ⊢
   have a1 : cmpS e.key x.key≤0:=by
    rcases ltE_iff.1 (h1.1 x hx) with h | h
    ·omega
    ·rw [h.1,cmpS_refl]; omega
   have a2 : cmpS x.key e.key≤0:=by
    rw [← hyk]
    rcases ltE_iff.1 hxy with h | h
    ·omega
    ·rw [h.1,cmpS_refl]; omega
   have:=cmpS_swap e.key x.key
   exact cmpS_eq_iff.1 (by omega)
  have hg : ∀ x∈(e :: r).takeWhile (fun x => decide (x.key = e.key)),x.key = e.key:=fun x hx => by
   rw [takeW_filter hlow] at hx
   simpa using (List.mem_filter.1 hx).2
  have hd : ∀ x∈(e :: r).dropWhile (fun x => decide (x.key = e.key)),x.key ≠ e.key:=fun x hx => by
   rw [dropW_filter hlow] at hx
   simpa using (List.mem_filter.1 hx).2
  show List.filterMap _ (_ :: gE f _) = _
  rw [filterMap_toList]
  generalize hG : (e :: r).takeWhile (fun x => decide (x.key = e.key)) = g at e1 hg
  generalize hD : (e :: r).dropWhile (fun x => decide (x.key = e.key)) = dd at e1 hd hdl
  rw [← e1] at hs ⊢
  have hsg : Sorted g:=(List.pairwise_append.1 hs).1
  have hsd : Sorted dd:=(List.pairwise_append.1 hs).2.1
  rw [visG_filter n e.key hsg hg,gE_filter n f hsd hdl,List.filter_append]
  congr 1
  ·refine List.filter_congr fun x hx => viz_congr fun y hy => ?_
   rw [List.mem_append]
   refine ⟨.inl,fun h => h.resolve_right fun hm => hd y hm (hy.trans (hg x hx))⟩
  ·refine List.filter_congr fun x hx => viz_congr fun y hy => ?_
   rw [List.mem_append]
   refine ⟨.inr,fun h => h.resolve_left fun hm => hd x hx (hy.symm.trans (hg y hm))⟩
theorem vis_filter {es : List Ent} (hs : Sorted es) (n : Int) : visE es n = es.filter (vizE es n):=gE_filter n es.length hs (Nat.le_refl _)
def inAB (a b k : Str) : Bool:=!Op.bytesLess k a && (decide (b = []) || Op.bytesLess k b)
theorem le_lt {a b c : Str} (h : cmpS a b≤0) (h2 : cmpS b c < 0) : cmpS a c < 0:=by
 rcases cmpS_range a b with h' | h' | h'
 ·exact cmpS_trans _ _ _ (by omega) h2
 ·rw [cmpS_eq_iff.1 h']; exact h2
 ·omega
theorem range_filter {es : List Ent} (hs : Sorted es) (hq : ∀ e∈es,e.seq≤1000000) (a b : Str) : rangeE es a b = es.filter fun e => inAB a b e.key:=by
 have hle : es.Pairwise fun x y => cmpS x.key y.key≤0:=hs.imp fun {x y} h => by
  rcases ltE_iff.1 h with h | h
  ·omega
  ·rw [h.1,cmpS_refl]; omega
 have hl : ∀ e∈es,ltE e ⟨a,1000000,false,[]⟩ = Op.bytesLess e.key a:=fun e he => by
  rw [Bool.eq_iff_iff,ltE_iff,bytesLess_cmp,decide_eq_true_eq]
  refine ⟨fun h => h.elim id fun h => ?_,.inl⟩
  have h1:=hq e he
  have h2:=h.2
  simp only at h2
  omega
 have p1 : es.Pairwise fun x y => ltE y ⟨a,1000000,false,[]⟩ = true→ltE x ⟨a,1000000,false,[]⟩ = true:=hs.imp fun h h2 => ltE_trans h h2
 have p2 : es.Pairwise fun x y => inR b y = true→inR b x = true:=hle.imp fun {x y} h => by
  simp only [inR,bytesLess_cmp,Bool.or_eq_true,decide_eq_true_eq]
  rintro (h2 | h2)
  ·exact .inl h2
  ·exact .inr (le_lt h h2)
 unfold rangeE firstE
 rw [drop_takeW,dropW_filter p1,takeW_filter (p2.filter _),List.filter_filter]
 refine List.filter_congr fun e he => ?_
 rw [hl e he]
 simp only [inAB,inR]
 exact Bool.and_comm _ _
theorem scan_filter {es : List Ent} (hs : Sorted es) (hq : ∀ e∈es,e.seq≤1000000) (a b : Str) (n : Int) : scanE es a b n = ((es.filter fun e => inAB a b e.key && vizE es n e).take 64).map fun e => ⟨e.key,e.val⟩:=by
 unfold scanE
 rw [range_filter hs hq,vis_filter (hs.filter _),List.filter_filter]
 congr 2
 refine List.filter_congr fun e he => ?_
 cases hi : inAB a b e.key
 ·simp
 ·simp only [Bool.and_true,Bool.true_and]
  refine viz_congr fun x hx => ?_
  rw [List.mem_filter,hx,hi]
  simp
end Go.Ab.En
namespace Go.Ab.En
open Go Go.Conc Go.RowKit Go.Ab
theorem key_inj {ws : List Wr} (hn : (ws.map (·.key)).Nodup) {i j : Nat} (hi : i < ws.length) (hj : j < ws.length) (h : ws[i].key = ws[j].key) : i = j:=by
 have h0:=List.nodup_iff_pairwise_ne.1 hn
 rcases Nat.lt_trichotomy i j with hlt | e | hlt
 ·have:=List.pairwise_iff_getElem.1 h0 i j (by simpa using hi) (by simpa using hj) hlt
  simp at this; exact absurd h this
 ·exact e
 ·have:=List.pairwise_iff_getElem.1 h0 j i (by simpa using hj) (by simpa using hi) hlt
  simp at this; exact absurd h.symm this
theorem write_mem {ws : List Wr} {w : Wr} (hn : (ws.map (·.key)).Nodup) (hc : writeC false ws w = 0) : ((writeW false ws w).map (·.key)).Nodup∧(∀ x,x∈writeW false ws w ↔ x = w∨(x∈ws∧x.key ≠ w.key))∧(writeW false ws w).length≤ws.length + 1:=by
 unfold writeW
 rw [if_pos hc]
 cases h : idxP (fun o => decide (o.key = w.key)) ws with
 | none =>
  have h1:=idxP_none h
  have h2 : ∀ x∈ws,x.key ≠ w.key:=fun x hx => by simpa using h1 x hx
  have hp:=sortW_perm (ws ++ [w])
  refine ⟨(hp.map _).nodup_iff.2 ?_,fun x => ?_,by rw [hp.length_eq]; simp⟩
  ·rw [List.map_append,List.nodup_append]
   refine ⟨hn,by simp,fun a ha b hb => ?_⟩
   obtain ⟨x,hx,rfl⟩:=List.mem_map.1 ha
   have : b = w.key:=by simpa using hb
   rw [this]; exact h2 x hx
  ·show x∈sortW (ws ++ [w]) ↔ _
   rw [hp.mem_iff,List.mem_append,List.mem_singleton]
   exact ⟨fun h => h.elim (fun h => .inr ⟨h,h2 x h⟩) .inl,fun h => h.elim .inr fun h => .inl h.1⟩
 | some i =>
  obtain ⟨hi,hk⟩:=idxP_lt h
  replace hk : ws[i].key = w.key:=by simpa using hk
  have e1 : (ws.set i w).map (·.key) = ws.map (·.key):=by
   refine List.ext_getElem (by simp) fun j h1 h2 => ?_
   simp only [List.getElem_map,List.getElem_set]
   split
   ·rename_i e; subst e; exact hk.symm
   ·rfl
  refine ⟨by show ((ws.set i w).map _).Nodup; rw [e1]; exact hn,fun x => ?_,by show (ws.set i w).length≤_; simp⟩
  show x∈ws.set i w ↔ _
  constructor
  ·intro hx
   obtain ⟨j,hj,e⟩:=List.getElem_of_mem hx
   rw [List.getElem_set] at e
   split at e
   ·exact .inl e.symm
   ·rename_i hij
    have hj' : j < ws.length:=by simpa using hj
    refine .inr ⟨e ▸ List.getElem_mem hj',fun hk2 => hij ?_⟩
    rw [← e] at hk2
    exact key_inj hn hi hj' (hk.trans hk2.symm)
  ·rintro (rfl | ⟨hx,hk2⟩)
   ·exact List.mem_iff_getElem.2 ⟨i,by simpa using hi,by simp⟩
   ·obtain ⟨j,hj,e⟩:=List.getElem_of_mem hx
    refine List.mem_iff_getElem.2 ⟨j,by simpa using hj,?_⟩
    rw [List.getElem_set,if_neg]
    ·exact e
    ·rintro rfl
     rw [← e] at hk2; exact hk2 hk
theorem okB_of : ∀ {ws : List Wr} {a : Str},(∀ w∈ws,isWr w = true∧cmpS a w.key < 0)→ws.Pairwise (fun x y => cmpS x.key y.key < 0)→okB a ws = true
 | [],_,_,_ => rfl
 | w :: r,a,h,hp => by
  obtain ⟨h1,h2⟩:=h w (by simp)
  have hp1:=List.pairwise_cons.1 hp
  have hl : leS w.key a = false:=by
   simp only [leS,bytesLess_cmp,Bool.or_eq_false_iff,decide_eq_false_iff_not]
   have:=cmpS_swap a w.key
   refine ⟨by omega,fun e => ?_⟩
   rw [e,cmpS_refl] at h2; omega
  simp only [okB,h1,hl,Bool.not_false,Bool.true_and]
  exact okB_of (fun x hx => ⟨(h x (by simp [hx])).1,hp1.1 x hx⟩) hp1.2
theorem nil_lt {k : Str} (h : k ≠ []) : cmpS [] k < 0:=by
 cases k with
 | nil => exact absurd rfl h
 | cons a r => simp [cmpS,Lib.compareBytes]
theorem keyS_inj {c : Int} {a b : Str} (h : keyS c a = keyS c b) : a = b:=by simpa [keyS] using h
theorem home_nodup {c : Int} {ws : List Wr} (hn : (ws.map (·.key)).Nodup) : ((homeW c ws).map (·.key)).Nodup:=by
 have h0:=List.nodup_iff_pairwise_ne.1 hn
 refine List.nodup_iff_pairwise_ne.2 ?_
 unfold homeW
 rw [List.map_map]
 rw [List.pairwise_map] at h0 ⊢
 exact h0.imp fun {x y} h e => h (keyS_inj e)
structure WsOk (ws : List Wr) : Prop where
 nodup : (ws.map (·.key)).Nodup
 len : ws.length≤8
 ok : ∀ w∈ws,w.key ≠ []∧(w.key.length : Int)≤12∧(w.val.length : Int)≤24∧(w.del = true→w.val = [])
theorem neatW_perm {ws : List Wr} (hn : (ws.map (·.key)).Nodup) : (neatW ws).Perm ws:=by
 unfold neatW
 rw [lastW_id hn]
 exact sortW_perm ws
theorem WsOk.batch {ws : List Wr} (h : WsOk ws) (c : Int) : isBatch (neatW (homeW c ws)) = true:=by
 have hp:=neatW_perm (home_nodup (c:=c) h.nodup)
 have hs : SortedW (neatW (homeW c ws)):=sortW_sorted _
 have hn:=neatW_nodup (homeW c ws)
 simp only [isBatch,Bool.and_eq_true,decide_eq_true_eq]
 refine ⟨okB_of (fun w hw => ?_) ?_,?_⟩
 ·obtain ⟨x,hx,rfl⟩:=List.mem_map.1 (hp.mem_iff.1 hw)
  obtain ⟨h1,h2,h3,h4⟩:=h.ok x hx
  refine ⟨?_,nil_lt (by simp [keyS])⟩
  show isWr ⟨keyS c x.key,x.del,x.val⟩ = true
  simp only [isWr,keyS,List.length_cons,Bool.and_eq_true,decide_eq_true_eq,Bool.or_eq_true,Bool.not_eq_true']
  refine ⟨decide_eq_true (by omega),decide_eq_true (by omega),h3,?_⟩
  cases hd : x.del
  ·exact .inl rfl
  ·exact .inr (h4 hd)
 ·have h0:=List.nodup_iff_pairwise_ne.1 hn
  rw [List.pairwise_map] at h0
  refine List.Pairwise.imp₂ (fun {x y} h1 h2 => ?_) hs h0
  have:=cmpS_swap x.key y.key
  rcases cmpS_range x.key y.key with h | h | h
  ·omega
  ·exact absurd (cmpS_eq_iff.1 h) h2
  ·omega
 ·rw [hp.length_eq]
  have:=h.len
  simp only [homeW,List.length_map]; omega
theorem WsOk.nil : WsOk []:=⟨by simp,by simp,by simp⟩
theorem writeC_ok {ws : List Wr} {w : Wr} (h : writeC false ws w = 0) : keyedB w.key = true∧(w.val.length : Int)≤24∧(ws.length < 8∨∃ i,idxP (fun o => decide (o.key = w.key)) ws = some i):=by
 unfold writeC at h
 simp only [Bool.false_eq_true,if_false] at h
 split at h
 ·omega
 ·rename_i h1
  rw [not_or] at h1
  refine ⟨by simpa using h1.1,by omega,?_⟩
  split at h
  ·exact .inr ⟨_,by assumption⟩
  ·split at h
   ·omega
   ·left; omega
theorem WsOk.write {ws : List Wr} {w : Wr} (h : WsOk ws) (hd : w.del = true→w.val = []) : WsOk (writeW false ws w):=by
 by_cases hc : writeC false ws w = 0
 ·obtain ⟨a1,a2,a3⟩:=write_mem h.nodup hc
  obtain ⟨k1,k2,k3⟩:=writeC_ok hc
  refine ⟨a1,?_,fun x hx => ?_⟩
  ·rcases k3 with k3 | ⟨i,hi⟩
   ·omega
   ·have : writeW false ws w = ws.set i w:=by unfold writeW; rw [if_pos hc,hi]
    rw [this,List.length_set]; exact h.len
  ·rcases (a2 x).1 hx with rfl | ⟨hx,_⟩
   ·simp only [keyedB,Bool.and_eq_true,decide_eq_true_eq] at k1
    exact ⟨k1.1,k1.2,k2,hd⟩
   ·exact h.ok x hx
 ·unfold writeW; rw [if_neg hc]; exact h
theorem fold_perm : ∀ (l es : List Ent),(l.foldl putE es).Perm (l ++ es)
 | [],es => .refl _
 | e :: r,es => by
  rw [List.foldl_cons]
  refine (fold_perm r (putE es e)).trans ?_
  have h1 : (putE es e).Perm (e :: es):=by
   unfold putE
   refine List.perm_middle.trans (List.Perm.cons e ?_)
   rw [List.take_append_drop]
  exact (List.Perm.append_left r h1).trans List.perm_middle
theorem low_le (x : UInt8) (r : Str) : ¬ cmpS (97 :: x :: r) [97,0] < 0:=by
 simp only [cmpS,Lib.compareBytes]
 have h0 : ¬ x < 0:=by rw [UInt8.lt_iff_toNat_lt]; exact Nat.not_lt_zero _
 rw [if_neg (by decide),if_neg (by decide),if_neg h0]
 split
 ·omega
 ·cases r <;> simp [Lib.compareBytes]
theorem lt_high (r : Str) : cmpS (97 :: r) [98] < 0:=by
 simp only [cmpS,Lib.compareBytes]
 rw [if_pos (by decide)]; decide
end Go.Ab.En
namespace Go.Proofs
open Go.Shelf Go.RowKit Go.Lib Go.Sort Go.Ab.En
instance : Inhabited Pr:=⟨⟨[],[]⟩⟩
def encP (p : Pr) : List Value:=[.string ⟨p.key.toArray⟩,.string ⟨p.val.toArray⟩]
set_option maxRecDepth 100000 in
set_option maxHeartbeats 2000000 in
theorem cmpLtS (a b : ByteArray) (W : World) (h : Op.bytesLess a.toList b.toList = true) : Calls Tryz.prog 159 #[.string a,.string b] W fun e w' => e = .returned (.int .i64 (-1))∧w' = W:=by
 go_enter Tryz.func159,Tryz.ntmps159
 go_wp2
 go_ret
 exact ⟨rfl,rfl⟩
set_option maxRecDepth 100000 in
set_option maxHeartbeats 2000000 in
theorem cmpGtS (a b : ByteArray) (W : World) (h : Op.bytesLess a.toList b.toList = false) (h2 : (a.toList == b.toList) = false) : Calls Tryz.prog 159 #[.string a,.string b] W fun e w' => e = .returned (.int .i64 1)∧w' = W:=by
 go_enter Tryz.func159,Tryz.ntmps159
 go_wp2
 go_ret
 exact ⟨rfl,rfl⟩
set_option maxRecDepth 100000 in
set_option maxHeartbeats 2000000 in
theorem cmpEqS (a b : ByteArray) (W : World) (h : Op.bytesLess a.toList b.toList = false) (h2 : (a.toList == b.toList) = true) : Calls Tryz.prog 159 #[.string a,.string b] W fun e w' => e = .returned (.int .i64 0)∧w' = W:=by
 go_enter Tryz.func159,Tryz.ntmps159
 go_wp2
 go_ret
 exact ⟨rfl,rfl⟩
theorem cmpAllS (a b : List UInt8) (W : World) : Calls Tryz.prog 159 #[.string ⟨a.toArray⟩,.string ⟨b.toArray⟩] W fun e w' => e = .returned (.int .i64 (cmpS a b))∧w' = W:=by
 have ea : (ByteArray.mk a.toArray).toList = a:=by rw [ByteArray.toList_eq]
 have eb : (ByteArray.mk b.toArray).toList = b:=by rw [ByteArray.toList_eq]
 cases h : Op.bytesLess a b
 ·cases h2 : (a == b)
  ·have h3 : ¬ a = b:=by simpa using h2
   rw [bytesLess_cmp,decide_eq_false_iff_not] at h
   have h4 : cmpS a b = 1:=by
    rcases cmpS_range a b with h' | h' | h'
    ·omega
    ·exact absurd (cmpS_eq_iff.1 h') h3
    ·exact h'
   rw [h4]
   exact cmpGtS _ _ W (by rw [ea,eb,bytesLess_cmp,decide_eq_false_iff_not]; exact h) (by rw [ea,eb]; exact h2)
  ·have h3 : a = b:=by simpa using h2
   have h4 : cmpS a b = 0:=by rw [h3,cmpS_refl]
   rw [h4]
   exact cmpEqS _ _ W (by rw [ea,eb]; exact h) (by rw [ea,eb]; exact h2)
 ·have h4 : cmpS a b = -1:=by
   have h5:=h
   rw [bytesLess_cmp,decide_eq_true_eq] at h5
   rcases cmpS_range a b with h' | h' | h'
   ·exact h'
   ·omega
   ·omega
  rw [h4]
  exact cmpLtS _ _ W (by rw [ea,eb]; exact h)
set_option maxRecDepth 100000 in
set_option maxHeartbeats 2000000 in
theorem closureP (x y : Pr) (W : World) : Calls Tryz.prog 158 #[.agg #[.string ⟨x.key.toArray⟩,.string ⟨x.val.toArray⟩],.agg #[.string ⟨y.key.toArray⟩,.string ⟨y.val.toArray⟩]] W fun e w' => e = .returned (.int .i64 (cmpS x.key y.key))∧∃ q os',w' = grow (W.drewN q) os':=by
 have hcon:=fun W' => cmpAllS x.key y.key W'
 generalize cmpS x.key y.key = r at hcon ⊢
 go_enter Tryz.func158,Tryz.ntmps158
 go_wp2_with (go_at_call 159; refine (hcon _).mono ?_; rintro e w' ⟨rfl,rfl⟩)
 go_ret
 exact ⟨rfl,0,_,by rw [alloc_eq_grow,alloc_eq_grow,grow_grow]; rfl⟩
theorem cmpLaysP (blk off size : Nat) (w : World) : CmpLays Tryz.prog 158 #[] encP 2 (fun x y => cmpS x.key y.key) blk off size w:=fun _ _ _ _ x y => closureP x y _
theorem swoP : SWO (ltOf fun x y : Pr => cmpS x.key y.key) where
 irrefl x:=by simp [ltOf,cmpS_refl]
 trans x y z h1 h2:=by simp only [ltOf,decide_eq_true_eq] at *; exact cmpS_trans _ _ _ h1 h2
 ntrans x y z h1 h2:=by
  simp only [ltOf,decide_eq_false_iff_not] at *
  intro h3
  rcases cmpS_range x.key y.key with h | h | h
  ·omega
  ·rw [cmpS_eq_iff.1 h] at h3; exact h2 h3
  ·have h4:=cmpS_swap x.key y.key
   have:=cmpS_trans y.key x.key z.key (by omega) h3
   exact h2 this
end Go.Proofs
namespace Go.Ab.En
open Go Go.Conc Go.RowKit Go.Ab
def Pr.cells (p : Pr) : List DV:=[.str p.key,.str p.val]
def flatP (ps : List Pr) : List DV:=ps.flatMap Pr.cells
theorem flatk_get {α β : Type} (k : Nat) (hk : 0 < k) (f : α→List β) (hf : ∀ x,(f x).length = k) : ∀ (l : List α) (j : Nat),(l.flatMap f)[j]? = (l[j / k]?).bind fun x => (f x)[j % k]?
 | [],j => by simp
 | x :: r,j => by
  rw [List.flatMap_cons]
  by_cases h : j < k
  ·rw [List.getElem?_append_left (by rw [hf]; exact h),Nat.div_eq_of_lt h,Nat.mod_eq_of_lt h]; rfl
  ·have hle : k≤j:=Nat.le_of_not_lt h
   rw [List.getElem?_append_right (by rw [hf]; exact hle),hf,flatk_get k hk f hf r (j - k)]
   have e1 : j / k = (j - k) / k + 1:=by rw [← Nat.add_div_right _ hk,Nat.sub_add_cancel hle]
   have e2 : j % k = (j - k) % k:=by rw [Nat.mod_eq_sub_mod hle]
   rw [e1,e2]; rfl
theorem flatk_len {α β : Type} (k : Nat) (f : α→List β) (hf : ∀ x,(f x).length = k) (l : List α) : (l.flatMap f).length = l.length * k:=by
 induction l with
 | nil => simp
 | cons x r ih => rw [List.flatMap_cons,List.length_append,hf,ih,List.length_cons,Nat.succ_mul,Nat.add_comm]
theorem flatP_len (ps : List Pr) : (flatP ps).length = ps.length * 2:=flatk_len 2 Pr.cells (fun _ => rfl) ps
theorem flatKP_list (d : Array Pr) : (Go.Sort.flatK Go.Proofs.encP 2 d).toList = d.toList.flatMap Go.Proofs.encP:=by
 refine List.ext_getElem? fun j => ?_
 rw [flatk_get 2 (by omega) _ (fun _ => rfl)]
 by_cases h : j < d.size * 2
 ·have hj : j / 2 < d.size:=by omega
  rw [Array.getElem?_toList,Array.getElem?_eq_getElem (by simpa using h)]
  have:=Go.Sort.get_flatK Go.Proofs.encP 2 d j h
  rw [getElem!_pos _ j (by simpa using h)] at this
  rw [this,Array.getElem?_toList,Array.getElem?_eq_getElem hj,getElem!_pos d _ hj]
  have hm : j % 2 < 2:=Nat.mod_lt _ (by omega)
  simp only [Option.bind_some]
  rw [List.getElem?_eq_getElem (by simpa [Go.Proofs.encP] using hm),getElem!_pos _ _ (by simpa [Go.Proofs.encP] using hm)]
 ·rw [List.getElem?_eq_none (by simpa using h),Array.getElem?_toList,Array.getElem?_eq_none (by omega)]; rfl
theorem prCell {G : Gh} {w : World} {a : Pr} {j : Nat} {c : DV} {v : Value} (hc : a.cells[j]? = some c) (h : VP G w c v) : (Go.Proofs.encP a)[j]? = some v:=by
 match j,hc with
 | 0,hc => simp [Pr.cells] at hc; subst hc; rw [SV.str (d:=0) h]; rfl
 | 1,hc => simp [Pr.cells] at hc; subst hc; rw [SV.str (d:=0) h]; rfl
theorem prCell2 {G : Gh} {w : World} {a : Pr} {j : Nat} {c : DV} {v : Value} (hc : a.cells[j]? = some c) (h : (Go.Proofs.encP a)[j]? = some v) : VP G w c v∧∀ sz xs,c ≠ .sl true sz xs:=by
 match j,hc with
 | 0,hc => simp [Pr.cells] at hc; subst hc; simp [Go.Proofs.encP] at h; subst h; exact ⟨.str _,by simp⟩
 | 1,hc => simp [Pr.cells] at hc; subst hc; simp [Go.Proofs.encP] at h; subst h; exact ⟨.str _,by simp⟩
def SSortP : Spec:=fun H args K => (∃ own : Bool,args = [.sl own 2 [],.fn 158 []]∧K H (.tup []))∨∃ (id q : Nat) (l : List Pr) (r : List DV),args = [.hsl id 2 0 l.length q,.fn 158 []]∧(l ≠ []→H[id]? = some (.cells (flatP l ++ r)))∧l.length < 4611686018427387904 ∧
 (l = []→K H (.tup []))∧(l ≠ []→∀ l',l'.Perm l→K (H.set id (.cells (flatP l' ++ r))) (.tup []))
theorem rcSortP : RC (loneJ pp) 157 SSortP:=by
 refine rc_of_calls ⟨_,Go.Proofs.Tryz.func157,by kernel_rfl,by kernel_rfl⟩ fun N0 w0 d G w H args vs K hS hW hF => ?_
 have fnEq : ∀ y,VP G w (.fn 158 []) y→y = .func (.func 158) #[] #[]:=fun y hy => by
  cases hy with
  | @fn _ _ us h1 h2 =>
   obtain rfl : us = #[]:=Array.eq_empty_of_size_eq_zero h1.symm
   rfl
 rcases hS with ⟨own,rfl,hK⟩ | ⟨id,q,l,r,rfl,hl,hlen,hK0,hK⟩
 ·have hsz : vs.size = 2:=hF.1.symm
  obtain ⟨x,y,rfl⟩ : ∃ x y,vs = #[x,y]:=by
   match vs,hsz with
   | ⟨[x,y]⟩,_ => exact ⟨x,y,rfl⟩
  have hx : VP G w (.sl own 2 []) x:=hF.2 0 _ _ rfl rfl
  obtain rfl:=fnEq y (hF.2 1 _ _ rfl rfl)
  obtain ⟨p,q,rfl⟩ : ∃ p q,x = .slice p 0 q:=by
   cases hx with
   | sl0 => exact ⟨_,_,rfl⟩
   | sl f h1 h2 h3 h4 h5 h6 => subst h1; exact ⟨_,_,rfl⟩
  refine (Go.Proofs.AnyF.slices_SortFunc_none { Go.Proofs.Tryz.sortP_lay with } p q _ w).mono fun e w' ⟨he,hw⟩ => ?_
  subst he hw
  exact ⟨_,rfl,G,H,.tup [],hK,Ext.refl _ _ _,hW,⟨#[],rfl,rfl,by simp⟩,sown_of_noOwn rfl⟩
 have hsz : vs.size = 2:=hF.1.symm
 obtain ⟨x,y,rfl⟩ : ∃ x y,vs = #[x,y]:=by
  match vs,hsz with
  | ⟨[x,y]⟩,_ => exact ⟨x,y,rfl⟩
 have hx : VP G w (.hsl id 2 0 l.length q) x:=hF.2 0 _ _ rfl rfl
 have hy : VP G w (.fn 158 []) y:=hF.2 1 _ _ rfl rfl
 obtain rfl:=fnEq y hy
 by_cases hl0 : l = []
 ·subst hl0
  obtain ⟨p,rfl⟩ : ∃ p,x = .slice p 0 q:=by
   cases hx with
   | hsl h1 h2 h3 => exact ⟨_,rfl⟩
   | hsl0 => exact ⟨_,rfl⟩
  refine (Go.Proofs.AnyF.slices_SortFunc_none { Go.Proofs.Tryz.sortP_lay with } p q _ w).mono fun e w' ⟨he,hw⟩ => ?_
  subst he hw
  exact ⟨_,rfl,G,H,.tup [],hK0 rfl,Ext.refl _ _ _,hW,⟨#[],rfl,rfl,by simp⟩,sown_of_noOwn rfl⟩
 have hpos : 0 < l.length:=List.length_pos_iff.2 hl0
 obtain ⟨b,rfl,hb,hq⟩ : ∃ b,x = .slice (some ⟨b,0,none⟩) l.length q∧G.bl id = some b∧l.length≤q:=by
  generalize l.length = n at hx hpos
  cases hx with
  | hsl h1 h2 h3 =>
   rcases h3 with h3 | rfl
   ·omega
   ·exact ⟨_,rfl,h1,h2⟩
  | hsl0 => exact absurd rfl (Nat.ne_of_gt hpos)
 obtain ⟨b',us,e,g1,g2,g3,g4,g5⟩:=hW.objs id _ (hl hl0)
 obtain rfl : b = b':=by rw [hb] at g1; exact Option.some.inj g1
 have hbl : b < w.heap.size:=(Array.getElem?_eq_some_iff.1 g3).1
 have fl : (flatP l).length = l.length * 2:=flatk_len 2 Pr.cells (fun _ => rfl) l
 have hus : l.length * 2 + r.length = us.size:=by rw [← g4,List.length_append,fl]
 have hcell : ∀ j,j < l.length * 2→us[j]? = (l.flatMap Go.Proofs.encP)[j]?:=by
  intro j hj
  have hju : j < us.size:=by omega
  have hj2' : j / 2 < l.length:=by omega
  have h1 : (flatP l)[j]? = (l[j / 2]).cells[j % 2]?:=by
   unfold flatP
   rw [flatk_get 2 (by omega) Pr.cells (fun _ => rfl),List.getElem?_eq_getElem hj2']; rfl
  have hm : j % 2 < (l[j / 2]).cells.length:=by simp [Pr.cells]; omega
  have h2:=(g5 j ((l[j / 2]).cells[j % 2]) us[j] (by rw [List.getElem?_append_left (by omega),h1,List.getElem?_eq_getElem hm]) (Array.getElem?_eq_getElem hju)).1
  rw [Array.getElem?_eq_getElem hju,flatk_get 2 (by omega) _ (fun _ => rfl),List.getElem?_eq_getElem hj2',Option.bind_some]
  exact (prCell (List.getElem?_eq_getElem hm) h2).symm
 have hfl:=flatKP_list l.toArray
 have hH : Go.Sort.HoldsK Go.Proofs.encP 2 w b 0 l.toArray:=by
  intro j hj
  rw [Go.Sort.size_flatK] at hj
  have hj2 : j < l.length * 2:=by simpa using hj
  have h1:=hcell j hj2
  have h2 : (Go.Sort.flatK Go.Proofs.encP 2 l.toArray)[j]? = (l.flatMap Go.Proofs.encP)[j]?:=by rw [← Array.getElem?_toList,hfl]
  have h3 : (Go.Sort.flatK Go.Proofs.encP 2 l.toArray)[j]! = (Go.Sort.flatK Go.Proofs.encP 2 l.toArray)[j]'(by simpa using hj):=getElem!_pos _ j (by simpa using hj)
  rw [Array.getElem?_eq_getElem (by simpa using hj)] at h2
  have h4 : us[j]? = some (Go.Sort.flatK Go.Proofs.encP 2 l.toArray)[j]!:=by rw [h1,← h2,h3]
  refine ⟨?_,?_⟩
  ·unfold World.cell?
   simp only [g3,Option.isSome_none,Bool.false_eq_true,if_false,Nat.zero_add]
   simpa using h4
  ·unfold World.frozen?
   simp [g3]
 have ent : Go.Proofs.Enters Go.Proofs.Tryz.prog 158:=Go.Proofs.enters_of Go.Proofs.Tryz.func158 (by kernel_rfl) rfl
 have hcon:=Go.Proofs.AnyQ.slices_SortFunc Go.Proofs.Tryz.sortP_lay 2 Go.Proofs.Tryz.isAgg96 Go.Proofs.Tryz.sizeOf96 Go.Proofs.encP (fun _ => rfl) (fun x v hv => by simp [Go.Proofs.encP] at hv; rcases hv with rfl | rfl <;> rfl) (fun x y => cmpS x.key y.key) Go.Proofs.swoP 158 #[] b 0 q l.toArray w ent (Go.Proofs.cmpLaysP b 0 l.toArray.size w) hH hbl (by simpa using hlen)
 refine Calls.mono (P:=Go.Proofs.Tryz.prog) hcon fun e2 w' ⟨he,d',n,os,hp,hs,hw⟩ => ?_
 have hds : d'.size = l.length:=by have:=hp.1; simpa using this
 have hp2 : d'.toList.Perm l:=by
  obtain ⟨hsz,_,hperm⟩:=hp
  have e1 : d'.extract 0 l.toArray.size = d':=by rw [← hsz]; exact Array.extract_size
  rw [e1,Array.extract_size] at hperm
  exact hperm
 obtain ⟨l',hd⟩ : ∃ l',d'.toList = l':=⟨_,rfl⟩
 rw [hd] at hp2
 have hfl2:=flatKP_list d'
 rw [hd] at hfl2
 have hsl : l'.length = l.length:=hp2.length_eq
 generalize hw1 : Go.Sort.putRowK Go.Proofs.encP 2 (Go.Sort.ahead w n) b 0 d' = w1 at *
 have hw2 : w' = Go.Sort.grow w1 os:=by rw [hw,← hw1]; rfl
 have hb1 : w1.heap[b]? = some (.cells (Go.Sort.putCells _root_.id 0 (Go.Sort.flatK Go.Proofs.encP 2 d') us) e (0,0)):=by
  rw [← hw1]
  simp only [Go.Sort.putRowK,Go.Sort.putRow,Go.Sort.mapBlock,Go.Sort.ahead]
  rw [Array.getElem?_modify,if_pos rfl,g3]
  rfl
 have hm : Mod b G w G w1:=by
  rw [← hw1]
  refine ⟨rfl,rfl,rfl,?_,hbl,fun x hx => ⟨?_,rfl⟩,rfl,rfl,⟨fun x o v h => ?_,fun _ _ h => h⟩⟩
  ·simp [Go.Sort.putRowK,Go.Sort.putRow,Go.Sort.mapBlock,Go.Sort.ahead]
  ·simp [Go.Sort.putRowK,Go.Sort.putRow,Go.Sort.mapBlock,Go.Sort.ahead,Array.getElem?_modify,Ne.symm hx]
  ·have hne : x ≠ b:=by rintro rfl; exact not_still_obj _ _ (g2 ▸ h.1)
   refine ⟨h.1,?_⟩
   have:=h.2
   rw [Go.Sort.cell?_putRowK_other _ _ _ _ _ _ _ hne]
   exact this
 have hput : ∀ j v,(Go.Sort.putCells _root_.id 0 (Go.Sort.flatK Go.Proofs.encP 2 d') us)[j]? = some v→(j < l.length * 2∧(l'.flatMap Go.Proofs.encP)[j]? = some v)∨(l.length * 2≤j∧us[j]? = some v):=by
  intro j v hv
  unfold Go.Sort.putCells at hv
  rw [Array.getElem?_mapIdx] at hv
  obtain ⟨u,hu,hv⟩:=Option.map_eq_some_iff.1 hv
  rw [Go.Sort.size_flatK,hds] at hv
  by_cases h : j < l.length * 2
  ·rw [if_pos ⟨by omega,by omega⟩] at hv
   refine .inl ⟨h,?_⟩
   rw [← hfl2,Array.getElem?_toList,Array.getElem?_eq_getElem (by simpa [hds] using h)]
   rw [Nat.sub_zero,getElem!_pos _ j (by simpa [hds] using h)] at hv
   exact congrArg some hv
  ·rw [if_neg (by omega)] at hv
   exact .inr ⟨by omega,by rw [hu,hv]⟩
 have fl2 : (flatP l').length = l.length * 2:=by rw [show (flatP l').length = l'.length * 2 from flatk_len 2 Pr.cells (fun _ => rfl) _,hsl]
 have hnarr : ∀ o wm,G.role b ≠ .arr o wm:=fun o wm h => by rw [g2] at h; cases h
 have hW1 : WRel N0 w0 G w1 (H.set id (.cells (flatP l' ++ r))):=by
  refine hW.mod hm (by rw [g2]; exact ⟨by simp,by simp⟩) (by simp) fun i ob hi => ?_
  by_cases e' : i = id
  ·subst e'
   have hil : i < H.length:=by simpa using (List.getElem?_eq_some_iff.1 hi).1
   rw [List.getElem?_set_self hil] at hi
   obtain rfl:=Option.some.inj hi
   refine ⟨b,_,e,hb,g2,hb1,by rw [List.length_append,fl2,hus]; simp [Go.Sort.putCells],fun j c v hc hv => ?_⟩
   rcases hput j v hv with ⟨hj,h⟩ | ⟨hj,h⟩
   ·have hj2' : j / 2 < l'.length:=by omega
    rw [List.getElem?_append_left (by omega)] at hc
    unfold flatP at hc
    rw [flatk_get 2 (by omega) Pr.cells (fun _ => rfl),List.getElem?_eq_getElem hj2'] at hc
    rw [flatk_get 2 (by omega) _ (fun _ => rfl),List.getElem?_eq_getElem hj2'] at h
    obtain ⟨k1,k2⟩:=prCell2 (G:=G) (w:=w1) hc h
    exact ⟨k1,fun sz xs e => absurd e (k2 sz xs)⟩
   ·rw [List.getElem?_append_right (by omega),fl2] at hc
    have:=g5 j c v (by rw [List.getElem?_append_right (by omega),fl]; exact hc) h
    exact ⟨this.1.keep hm.keep,this.2.mod hm (hnarr _)⟩
  ·rw [List.getElem?_set_ne (Ne.symm e')] at hi
   exact (hW.objs i ob hi).mod hm (fun h => e' (by rw [g2] at h; exact (Role.obj.inj h).symm)) (fun _ _ => hnarr _ _)
 have hn : Neu G w1 G w':=by
  rw [hw2]
  refine ⟨rfl,rfl,rfl,by simp [Go.Sort.grow],fun x hx => ⟨?_,rfl⟩,rfl,rfl,fun h x hx => h x ?_⟩
  ·simp [Go.Sort.grow,Array.getElem?_append_left hx]
  ·simp [Go.Sort.grow] at hx; omega
 subst he
 exact ⟨_,rfl,G,_,.tup [],hK hl0 l' hp2,(hm.ext _ (fun _ _ _ h => by rw [g2] at h; cases h) (fun _ _ _ => hnarr _ _)).trans (hn.ext hW1.fresh _),hW1.neu hn,⟨#[],rfl,rfl,by simp⟩,sown_of_noOwn rfl⟩
end Go.Ab.En
namespace Go.Ab.En
open Go Go.Conc Go.RowKit Go.Ab
set_option maxRecDepth 10000
def isP : ObjT:=fun t => t == 64
theorem isP_eq {t : TypeId} : isP t = (t == 64):=_root_.id rfl
def isU : ObjT:=fun t => t == 64 || t == 32
theorem isU_eq {t : TypeId} : isU t = (t == 64 || t == 32):=_root_.id rfl
def HRowFP (H : List HObj) (id cap : Nat) (ps : List Pr) : Prop:=ps.length≤cap∧(cap ≠ 0→∃ sp,H[id]? = some (.cells (flatP ps ++ sp))∧sp.length = (cap - ps.length) * 2)
def OutQ (H H' : List HObj) (v : DV) (ps : List Pr) : Prop:=∃ id cap,v = .hsl id 2 0 ps.length cap∧HRowFP H' id cap ps∧(cap ≠ 0→H.length≤id)
theorem HRowFP.fr {S : List Nat} {H H' : List HObj} {id cap : Nat} {ps : List Pr} (h : HRowFP H id cap ps) (f : Fr S H H') (hs : cap ≠ 0→id ∉ S) : HRowFP H' id cap ps:=by
 refine ⟨h.1,fun hc => ?_⟩
 obtain ⟨sp,h3,h4⟩:=h.2 hc
 exact ⟨sp,f.get h3 (hs hc),h4⟩
theorem OutQ.fr {H H1 H2 : List HObj} {v : DV} {ps : List Pr} (h : OutQ H H1 v ps) (f : Fr [] H1 H2) : OutQ H H2 v ps:=by
 obtain ⟨id,cap,h1,h3,h4⟩:=h
 exact ⟨id,cap,h1,h3.fr f (by simp),h4⟩
theorem flatP_app (a b : List Pr) : flatP (a ++ b) = flatP a ++ flatP b:=by simp [flatP]
theorem flatP_sca : ∀ ps : List Pr,(flatP ps).all DV.scalar = true
 | [] => rfl
 | p :: r => by
  have:=flatP_sca r
  simp only [flatP,List.flatMap_cons,List.all_append,Bool.and_eq_true] at this ⊢
  exact ⟨rfl,this⟩
theorem flatP_ro : ∀ ps : List Pr,(flatP ps).map DV.ro1 = flatP ps
 | [] => rfl
 | p :: r => by
  have:=flatP_ro r
  simp only [flatP,List.flatMap_cons,List.map_append] at this ⊢
  rw [this]; rfl
theorem flatP_drop : ∀ (ps : List Pr) (i : Nat),(flatP ps).drop (i * 2) = flatP (ps.drop i)
 | ps,0 => by simp
 | [],i + 1 => by simp [flatP]
 | e :: r,i + 1 => by
  have:=flatP_drop r i
  rw [List.drop_succ_cons,← this]
  simp only [flatP,List.flatMap_cons,Pr.cells]
  rw [show (i + 1) * 2 = i * 2 + 2 by omega]
  simp
theorem prow_cells {ps : List Pr} {sp : List DV} {i : Nat} (hi : i < ps.length) : ∃ r,(flatP ps ++ sp).drop (i * 2) = .str (ps[i]).key :: .str (ps[i]).val :: r:=by
 rw [List.drop_append_of_le_length (by rw [flatP_len]; omega),flatP_drop,List.drop_eq_getElem_cons hi]
 exact ⟨flatP (ps.drop (i + 1)) ++ sp,by rw [flatP,List.flatMap_cons]; rfl⟩
noncomputable def b217 : Code:=(Go.Proofs.Tryz.f217.body).getD .skip
theorem hb217 : Go.Proofs.Tryz.f217.body = some b217:=by kernel_rfl
def idxQ (p : Pr→Bool) : List Pr→Option Nat
 | [] => none
 | w :: r => if p w then some 0 else (idxQ p r).map (· + 1)
def SIdxQ (f : Nat) (SF : Spec) : Spec:=fun H args K => ∃ (id cap : Nat) (ps : List Pr) (caps : List DV) (p : Pr→Bool),args = [.hsl id 2 0 ps.length cap,.fn f caps]∧HRowFP H id cap ps∧ps.length < 4611686018427387904∧caps.map DV.ro = caps ∧
 (∀ w : Pr,∀ K' : List HObj→DV→Prop,K' H (.bool (p w))→SF H (.agg [.str w.key,.str w.val] :: caps) K')∧K H (.int .i64 (idxI (idxQ p ps)))
def MIq (H : List HObj) (f : Nat) (caps : List DV) (v : DV) (ps : List Pr) (p : Pr→Bool) (m : Nat) (st : St) : Prop:=∃ i : Nat,i≤ps.length∧m = ps.length - i∧idxQ p ps = (idxQ p (ps.drop i)).map (· + i) ∧
 st = mk 19 [(0,v),(1,.fn f caps),(7,.int .i64 ps.length),(8,.int .i64 i)] [] H []
set_option maxHeartbeats 4000000 in
theorem rcIdxQ {I : Jd pp} (hI : ∀ w e,I.Ok w e) {SF : Spec} {f : Nat} (hF : RC I f SF) : RC I 217 (SIdxQ f SF):=by
 refine rc_of_code (isObj:=noO) (Γ:=envOf [(f,SF)]) (rs:=[4]) mixed hI (envOf_rc (by simpa using hF)) Go.Proofs.Tryz.func217 (by kernel_rfl) hb217 Go.Proofs.Tryz.results217 Go.Proofs.Tryz.ntmps217 (by decide) ?_
 rintro H args K ⟨id,cap,ps,caps,p,rfl,hr,hl,hcap,hp,hK⟩
 have hz : ∀ o : Option Nat,o.map (· + 0) = o:=fun o => by cases o <;> rfl
 refine ⟨by simp,rfl,?_⟩
 unfold b217 Go.Proofs.Tryz.f217
 simp only [Int.reduceNeg,Option.getD_some,argSlots,BB3,BQ,BB0,BB1,constDV,dropLk,Nat.reduceLT,movK,Nat.reduceBEq,dlh64]
 refine w_loop [0,1,7,8] (MIq H f caps (.hsl id 2 0 ps.length cap) ps p) ps.length ?_ ?_
 ·exact ⟨0,by omega,by omega,by simp [hz],by simp only [BB1,List.map_cons,Nat.reduceBEq,BB3,List.map_nil,BB4]; try rfl⟩
 ·rintro m st ⟨i,hi,rfl,hix,rfl⟩
  by_cases e : i < ps.length
  ·have e1 : (i : Int) < ps.length:=by omega
   have e2 : (0 : Int)≤i:=by omega
   have wi : IntKind.i64.wrap ((i : Int) + 1) = ((i + 1 : Nat) : Int):=by rw [wrap_i64 (by omega) (by omega)]; omega
   obtain ⟨sp,k1,_⟩:=hr.2 (by rintro rfl; have:=hr.1; omega)
   obtain ⟨r,d1⟩:=prow_cells (sp:=sp) e
   rw [List.drop_eq_getElem_cons e] at hix
   simp only [Int.reduceNeg,BB0,BB1,BB4,BQ,Nat.reduceLT,Nat.reduceBEq,BB3,e1,dropLk,cd_t,movK,takK,ixh64,e2,k1,d1,la96,Nat.reduceLeDiff,List.map_cons,List.map_nil,BB5,if_true,hcap,if_false]
   refine hp ps[i] _ ?_
   cases hpw : p ps[i]
   ·simp only [Int.reduceNeg,BB1,BB5,Pos.isHp,BQ,dropLk,BB0,Nat.reduceLT,BB3,cd_f,BB4,Nat.reduceBEq,constDV,wi,movK,List.map_cons,List.map_nil,if_false]
    refine ⟨_,?_,i + 1,by omega,rfl,?_,rfl⟩
    ·omega
    ·rw [hix,idxQ,hpw]
     cases idxQ p (ps.drop (i + 1)) <;> simp; omega
   ·simp only [Int.reduceNeg,BB1,BB5,Pos.isHp,BQ,dropLk,BB0,Nat.reduceLT,BB3,cd_t,movK,Nat.reduceBEq,takK,BB6]
    rw [hix,idxQ,hpw] at hK
    simpa [idxI] using hK
  ·obtain rfl : i = ps.length:=by omega
   have e1 : ¬ (ps.length : Int) < ps.length:=by omega
   simp only [Int.reduceNeg,BB0,BB1,BB4,BQ,Nat.reduceLT,Nat.reduceBEq,BB3,e1,dropLk,cd_f,constDV,BB6,if_true,if_false]
   rw [hix,List.drop_length] at hK
   exact hK
noncomputable def b156 : Code:=(Go.Proofs.Tryz.f156.body).getD .skip
theorem hb156 : Go.Proofs.Tryz.f156.body = some b156:=by kernel_rfl
def SUp1 : Spec:=fun H args K => ∃ (b : Nat) (p : Pr) (w : Wr),args = [.agg [.str p.key,.str p.val],.ptr b 0]∧H[b]? = some (.cells [.str w.key,.bool w.del,.str w.val])∧K H (.bool (decide (p.key = w.key)))
theorem rcUp1 {I : Jd pp} (hI : ∀ w e,I.Ok w e) : RC I 156 SUp1:=by
 refine rc_of_code (isObj:=noO) (Γ:=envOf []) (rs:=[3]) mixed hI (envOf_rc (by simp)) Go.Proofs.Tryz.func156 (by kernel_rfl) hb156 Go.Proofs.Tryz.results156 Go.Proofs.Tryz.ntmps156 (by decide) ?_
 rintro H args K ⟨b,p,w,rfl,h1,hK⟩
 refine ⟨by simp,rfl,?_⟩
 unfold b156 Go.Proofs.Tryz.f156
 simp only [Option.getD_some,argSlots,BB1,List.map_cons,List.map_nil,BQ,BB2,BB0,Nat.reduceLT,takK,BB3,BB4,isO_eq,dropLk,bgen_eq,if_false,constDV,Nat.reduceBEq,fl96_0,if_true,la9,fp32_0,h1,BB6]
 exact hK
noncomputable def b155 : Code:=(Go.Proofs.Tryz.f155.body).getD .skip
theorem hb155 : Go.Proofs.Tryz.f155.body = some b155:=by kernel_rfl
def SClQ : Spec:=fun H args K => ∃ (own : Bool) (ps : List Pr),args = [.sl own 2 (ps.map prD)]∧ps.length < 100000∧∀ H' v,Fr [] H H'→OutQ H H' v ps→K H' v
def SClQ1 : Spec:=fun H args K => ∃ (own : Bool) (p : Pr) (ps : List Pr),args = [.sl own 2 ((p :: ps).map prD)]∧(p :: ps).length < 100000∧∀ H' v,Fr [] H H'→OutQ H H' v (p :: ps)→K H' v
def SClQ0 : Spec:=fun H args K => ∃ (own : Bool),args = [.sl own 2 []]∧∀ H' v,Fr [] H H'→OutQ H H' v []→K H' v
theorem rcClQ1 : RC (loneJ pp) 92 SClQ1:=by
 have hI:=hI1
 refine rc_of_code (isObj:=isP) (Γ:=envOf []) (rs:=[2]) mixed hI (envOf_rc (by simp)) Go.Proofs.Tryz.func92 (by kernel_rfl) hb92 Go.Proofs.Tryz.results92 Go.Proofs.Tryz.ntmps92 (by decide) ?_
 rintro H args K ⟨own,p,ps,rfl,h2,hK⟩
 refine ⟨by simp,rfl,?_⟩
 unfold b92 Go.Proofs.Tryz.f92
 simp only [Option.getD_some,argSlots,List.map_cons,BB1,BB0,constDV,Proofs.Tryz.underlying64,cn96,dropLk,Nat.reduceLT,movK,Nat.reduceBEq,BB3,lkGet,BB4,n_eql Go.Proofs.Tryz.underlying64,cd_f,bs64_0,isP_eq,BQ,apo64_64,takK,BB6,ne_eq,srcC_sl Go.Proofs.Tryz.underlying64,Nat.reduceLeDiff,reduceCtorEq,ap64_64,if_true,cd_t]
 have e1 : (List.map prD ps).length + 1 = (p :: ps).length:=by simp
 have e2 : List.map DV.ro1 ((prD p).cells ++ List.flatMap DV.cells (List.map prD ps)) = flatP (p :: ps):=by
  have h : ∀ l : List Pr,List.flatMap DV.cells (List.map prD l) = flatP l:=fun l => by
   rw [List.flatMap_map]; rfl
  rw [h,show (prD p).cells = p.cells from rfl,show p.cells ++ flatP ps = flatP (p :: ps) from rfl,flatP_ro]
 rw [e1,e2]
 simp at h2
 refine ⟨by simp; omega,by simp; omega,fun q hq => hK _ _ (Fr.app [] _ _) ⟨H.length,q,rfl,⟨hq,fun _ => ⟨List.replicate ((q - (p :: ps).length) * 2) .undef,by simp,by simp⟩⟩,fun _ => Nat.le_refl _⟩⟩
theorem infoPr : (pp.info? 96).map (fun i => (i.zero,i.size,i.bytes)) = some (some (.agg #[.string ⟨#[]⟩,.string ⟨#[]⟩]),2,32):=by kernel_rfl
theorem rcClQ0 : RC (loneJ pp) 92 SClQ0:=by
 refine rc_of_calls ⟨_,Go.Proofs.Tryz.func92,by kernel_rfl,by kernel_rfl⟩ fun N0 w0 d G w H args vs K hS hW hF => ?_
 obtain ⟨own,rfl,hK⟩:=hS
 have hsz : vs.size = 1:=hF.1.symm
 obtain ⟨x,rfl⟩ : ∃ x,vs = #[x]:=by
  match vs,hsz with
  | ⟨[x]⟩,_ => exact ⟨x,rfl⟩
 have hx : VP G w (.sl own 2 []) x:=hF.2 0 _ _ rfl rfl
 obtain ⟨p,q,rfl⟩ : ∃ p q,x = .slice p 0 q:=by
  cases hx with
  | sl0 => exact ⟨_,_,rfl⟩
  | sl f h1 h2 h3 h4 h5 h6 => subst h1; exact ⟨_,_,rfl⟩
 cases p with
 | none =>
  refine (Go.Proofs.AnyE.slices_Clone_nil Go.Proofs.Tryz.cloneP_lay 0 q w).mono fun e w' ⟨he,hw⟩ => ?_
  subst he hw
  exact ⟨_,rfl,G,H,.hsl 0 2 0 0 0,hK H _ (Fr.refl _ _) ⟨0,0,rfl,⟨Nat.le_refl _,fun h => absurd rfl h⟩,fun h => absurd rfl h⟩,Ext.refl _ _ _,hW,SV.of_vp VP.hsl0,sown_of_noOwn rfl⟩
 | some a =>
  obtain ⟨b,off,f⟩:=a
  have hf : f = none:=by
   cases hx with
   | sl f h1 h2 h3 h4 h5 h6 => rfl
  subst hf
  obtain ⟨i0,hi,hz0,hz1,hz2⟩:=Go.info_parts infoPr
  refine (Go.Proofs.AnyE.slices_Clone Go.Proofs.Tryz.cloneP_lay i0 _ 2 _ hi hz0 hz1 hz2 rfl (by decide) Go.Proofs.Tryz.sizeOf96 b off 0 q [] w rfl (Nat.zero_le _) (by omega) (by intro j u h; simp at h) (by intro u h; cases h)).mono fun e w' ⟨v',he,how,hnn,hB⟩ => ?_
  subst he
  obtain ⟨_,ho⟩:=how
  rcases ho with ⟨e,_⟩ | ⟨g,cap,cur,rfl,hg,hgw,h0,hm,hc,_⟩
  ·exact absurd e hnn
  have hlt : g < w'.heap.size:=(Array.getElem?_eq_some_iff.1 hgw).1
  have hn : Neu G w (G.setRole g (.obj H.length)) w':=⟨hB.os,hB.tape,hB.output,hB.size,fun k hk => ⟨hB.block k hk,G.setRole_ne _ (by omega)⟩,rfl,rfl,fun h k hk => by
   rw [G.setRole_ne _ (by omega)]
   exact h k (Nat.le_trans hB.size hk)⟩
  have hW1:=hW.neu hn
  have hW2:=hW1.addObj (n:=g) (ob:=.cells (List.replicate (cap * 2) .undef)) (by simp) ⟨g,cur,_,by simp [Gh.setBl],by simp,hgw,by simp [hc],fun j c v hc' hv => by
   have:=(List.mem_replicate.1 (List.mem_of_getElem? hc')).2
   subst this
   exact ⟨.undef _,fun sz xs e => by cases e⟩⟩
  exact ⟨_,rfl,_,_,.hsl H.length 2 0 0 cap,hK _ _ (Fr.app [] _ _) ⟨H.length,cap,rfl,⟨Nat.zero_le _,fun _ => ⟨List.replicate (cap * 2) .undef,by simp [flatP],by simp⟩⟩,fun _ => Nat.le_refl _⟩,(hn.ext hW.fresh _).trans (ext_setBl hW1 g),hW2,SV.of_vp (VP.hsl (by simp [Gh.setBl]) (Nat.zero_le _) (.inr rfl)),sown_of_noOwn rfl⟩
theorem rcClQ : RC (loneJ pp) 92 SClQ:=by
 refine ⟨rcClQ0.1,fun N0 w0 d G w H args vs K hS => ?_⟩
 obtain ⟨own,ps,rfl,h2,hK⟩:=hS
 cases ps with
 | nil => exact rcClQ0.2 N0 w0 d G w H _ vs K ⟨own,rfl,hK⟩
 | cons p ps => exact rcClQ1.2 N0 w0 d G w H _ vs K ⟨own,p,ps,rfl,h2,hK⟩
end Go.Ab.En
namespace Go.Ab.En
open Go Go.Conc Go.RowKit Go.Ab
def Asc (l : List Wr) : Prop:=l.Pairwise fun x y => cmpS x.key y.key < 0
theorem leS_iff {a b : Str} : leS a b = true ↔ cmpS a b < 0∨a = b:=by
 simp only [leS,bytesLess_cmp,Bool.or_eq_true,decide_eq_true_eq]
def withR (w : Wr) : Bool→List Wr→List Wr
 | d,[] => if d then [] else [w]
 | d,x :: r => (if !d && leS w.key x.key then [w] else []) ++ (if x.key = w.key then [] else [x]) ++ withR w (d || leS w.key x.key) r
theorem with_done (w : Wr) : ∀ l,withR w true l = l.filter fun x => decide (x.key ≠ w.key)
 | [] => rfl
 | x :: r => by
  rw [withR,Bool.true_or,with_done w r,List.filter_cons]
  by_cases h : x.key = w.key <;> simp [h]
theorem with_asc {w : Wr} : ∀ {l : List Wr},Asc l→Asc (withR w false l)∧∀ x,x∈withR w false l ↔ x = w∨(x∈l∧x.key ≠ w.key)
 | [],_ => ⟨by simp [withR,Asc],by simp [withR]⟩
 | a :: r,h => by
  have h1:=List.pairwise_cons.1 h
  obtain ⟨i1,i2⟩:=with_asc (w:=w) h1.2
  have e0 : withR w false (a :: r) = (if leS w.key a.key then [w] else []) ++ (if a.key = w.key then [] else [a]) ++ withR w (leS w.key a.key) r:=by rw [withR]; simp
  rw [e0]
  cases hle : leS w.key a.key
  ·have hlt : cmpS a.key w.key < 0:=by
    have h2 : ¬ (cmpS w.key a.key < 0∨w.key = a.key):=fun h => by rw [leS_iff.2 h] at hle; cases hle
    rw [not_or] at h2
    have:=cmpS_swap w.key a.key
    rcases cmpS_range a.key w.key with h | h | h
    ·omega
    ·exact absurd (cmpS_eq_iff.1 h).symm h2.2
    ·omega
   have hne : a.key ≠ w.key:=fun e => by rw [e,cmpS_refl] at hlt; omega
   simp only [Bool.false_eq_true,if_false,if_neg hne,List.nil_append,List.singleton_append]
   refine ⟨List.pairwise_cons.2 ⟨fun y hy => ?_,i1⟩,fun x => ?_⟩
   ·rcases (i2 y).1 hy with rfl | ⟨hy,_⟩
    ·exact hlt
    ·exact h1.1 y hy
   ·rw [List.mem_cons,i2,List.mem_cons]
    constructor
    ·rintro (rfl | rfl | ⟨hx,hk⟩)
     ·exact .inr ⟨.inl rfl,hne⟩
     ·exact .inl rfl
     ·exact .inr ⟨.inr hx,hk⟩
    ·rintro (rfl | ⟨rfl | hx,hk⟩)
     ·exact .inr (.inl rfl)
     ·exact .inl rfl
     ·exact .inr (.inr ⟨hx,hk⟩)
  ·have hwa:=leS_iff.1 hle
   have hwr : ∀ y∈r,cmpS w.key y.key < 0:=fun y hy => by
    rcases hwa with h | h
    ·exact cmpS_trans _ _ _ h (h1.1 y hy)
    ·rw [h]; exact h1.1 y hy
   have hf : r.filter (fun x => decide (x.key ≠ w.key)) = r:=List.filter_eq_self.2 fun y hy => by
    rw [decide_eq_true_eq]
    intro e
    have:=hwr y hy
    rw [e,cmpS_refl] at this; omega
   simp only [if_true,with_done,hf,List.singleton_append]
   by_cases hk : a.key = w.key
   ·simp only [if_pos hk,List.append_nil,List.singleton_append]
    refine ⟨List.pairwise_cons.2 ⟨hwr,h1.2⟩,fun x => ?_⟩
    rw [List.mem_cons,List.mem_cons]
    constructor
    ·rintro (rfl | hx)
     ·exact .inl rfl
     ·refine .inr ⟨.inr hx,fun e => ?_⟩
      have:=hwr x hx
      rw [e,cmpS_refl] at this; omega
    ·rintro (rfl | ⟨rfl | hx,hk2⟩)
     ·exact .inl rfl
     ·exact absurd hk hk2
     ·exact .inr hx
   ·have hwa2 : cmpS w.key a.key < 0:=hwa.elim _root_.id fun e => absurd e.symm hk
    simp only [if_neg hk,List.cons_append,List.nil_append]
    refine ⟨List.pairwise_cons.2 ⟨fun y hy => ?_,List.pairwise_cons.2 ⟨h1.1,h1.2⟩⟩,fun x => ?_⟩
    ·rcases List.mem_cons.1 hy with rfl | hy
     ·exact hwa2
     ·exact hwr y hy
    ·rw [List.mem_cons,List.mem_cons]
     constructor
     ·rintro (rfl | rfl | hx)
      ·exact .inl rfl
      ·exact .inr ⟨.inl rfl,hk⟩
      ·refine .inr ⟨.inr hx,fun e => ?_⟩
       have:=hwr x hx
       rw [e,cmpS_refl] at this; omega
     ·rintro (rfl | ⟨rfl | hx,_⟩)
      ·exact .inl rfl
      ·exact .inr (.inl rfl)
      ·exact .inr (.inr hx)
def foldR (acc b : List Wr) : List Wr:=b.foldl (fun l w => withR w false l) acc
theorem fold_asc : ∀ {b acc : List Wr},Asc acc→(b.map (·.key)).Nodup→Asc (foldR acc b)∧∀ x,x∈foldR acc b ↔ x∈b∨(x∈acc∧∀ y∈b,y.key ≠ x.key)
 | [],acc,h,_ => ⟨h,by simp [foldR]⟩
 | w :: r,acc,h,hn => by
  have h1:=List.nodup_cons.1 hn
  obtain ⟨w1,w2⟩:=with_asc (w:=w) h
  obtain ⟨i1,i2⟩:=fold_asc (b:=r) w1 h1.2
  refine ⟨i1,fun x => ?_⟩
  show x∈foldR (withR w false acc) r ↔ _
  rw [i2,w2,List.mem_cons]
  have hk : ∀ y∈r,y.key ≠ w.key:=fun y hy e => h1.1 (List.mem_map.2 ⟨y,hy,e⟩)
  constructor
  ·rintro (hx | ⟨rfl | ⟨hx,hne⟩,ha⟩)
   ·exact .inl (.inr hx)
   ·exact .inl (.inl rfl)
   ·exact .inr ⟨hx,fun y hy => by
     rcases List.mem_cons.1 hy with rfl | hy
     ·exact fun e => hne e.symm
     ·exact ha y hy⟩
  ·rintro ((rfl | hx) | ⟨hx,ha⟩)
   ·exact .inr ⟨.inl rfl,hk⟩
   ·exact .inl hx
   ·exact .inr ⟨.inr ⟨hx,fun e => ha w (by simp) e.symm⟩,fun y hy => ha y (by simp [hy])⟩
theorem asc_nil : Asc []:=List.Pairwise.nil
theorem asc_unique {α : Type} (k : α→Str) : ∀ {a b : List α},a.Pairwise (fun x y => cmpS (k x) (k y) < 0)→b.Pairwise (fun x y => cmpS (k x) (k y) < 0)→(∀ x,x∈a ↔ x∈b)→a = b
 | [],[],_,_,_ => rfl
 | [],y :: b,_,_,h => by have:=(h y).2 (by simp); cases this
 | x :: a,[],_,_,h => by have:=(h x).1 (by simp); cases this
 | x :: a,y :: b,ha,hb,h => by
  have h1:=List.pairwise_cons.1 ha
  have h2:=List.pairwise_cons.1 hb
  have hxy : x = y:=by
   rcases List.mem_cons.1 ((h x).1 (by simp)) with e | hx
   ·exact e
   ·rcases List.mem_cons.1 ((h y).2 (by simp)) with e | hy
    ·exact e.symm
    ·have a1:=h2.1 x hx
     have a2:=h1.1 y hy
     have:=cmpS_swap (k x) (k y)
     omega
  subst hxy
  congr 1
  refine asc_unique k h1.2 h2.2 fun z => ?_
  constructor
  ·intro hz
   rcases List.mem_cons.1 ((h z).1 (by simp [hz])) with e | h3
   ·have:=h1.1 z hz
    rw [e,cmpS_refl] at this; omega
   ·exact h3
  ·intro hz
   rcases List.mem_cons.1 ((h z).2 (by simp [hz])) with e | h3
   ·have:=h2.1 z hz
    rw [e,cmpS_refl] at this; omega
   ·exact h3
theorem fold_neat {l : List Wr} (hn : (l.map (·.key)).Nodup) : foldR [] l = neatW l:=by
 obtain ⟨a1,a2⟩:=fold_asc (b:=l) asc_nil hn
 have hp:=neatW_perm hn
 refine asc_unique (fun w : Wr => w.key) a1 ?_ fun x => ?_
 ·have hs : SortedW (neatW l):=sortW_sorted _
  have h0:=List.nodup_iff_pairwise_ne.1 ((hp.map (·.key)).nodup_iff.2 hn)
  rw [List.pairwise_map] at h0
  refine List.Pairwise.imp₂ (fun {x y} h1 h2 => ?_) hs h0
  have:=cmpS_swap x.key y.key
  rcases cmpS_range x.key y.key with h | h | h
  ·omega
  ·exact absurd (cmpS_eq_iff.1 h) h2
  ·omega
 ·rw [a2,hp.mem_iff]
  simp
def mapR (L : List (List Wr)) (n : Nat) : List Wr:=(L.take n).foldl foldR []
theorem mapR_succ (L : List (List Wr)) (n : Nat) : mapR L (n + 1) = match L[n]? with | some b => foldR (mapR L n) b | none => mapR L n:=by
 unfold mapR
 cases h : L[n]? with
 | none =>
  have:=List.getElem?_eq_none_iff.1 h
  rw [List.take_of_length_le (by omega),List.take_of_length_le (by omega)]
 | some b =>
  obtain ⟨hlt,e⟩:=List.getElem?_eq_some_iff.1 h
  rw [List.take_succ_eq_append_getElem hlt,List.foldl_append,e]; rfl
theorem map_mem {L : List (List Wr)} (hn : ∀ b∈L,(b.map (·.key)).Nodup) : ∀ n,Asc (mapR L n)∧∀ x,x∈mapR L n ↔ ∃ i b,i < n∧L[i]? = some b∧x∈b∧∀ j b',i < j→j < n→L[j]? = some b'→∀ y∈b',y.key ≠ x.key
 | 0 => ⟨by simp [mapR,Asc],fun x => by simp [mapR]⟩
 | n + 1 => by
  obtain ⟨i1,i2⟩:=map_mem hn n
  rw [mapR_succ]
  cases h : L[n]? with
  | none =>
   refine ⟨i1,fun x => ?_⟩
   show x∈mapR L n ↔ _
   rw [i2]
   constructor
   ·rintro ⟨i,b,hi,hb,hx,ha⟩
    refine ⟨i,b,by omega,hb,hx,fun j b' h1 h2 h3 => ?_⟩
    by_cases e : j = n
    ·subst e; rw [h] at h3; cases h3
    ·exact ha j b' h1 (by omega) h3
   ·rintro ⟨i,b,hi,hb,hx,ha⟩
    by_cases e : i = n
    ·subst e; rw [h] at hb; cases hb
    ·exact ⟨i,b,by omega,hb,hx,fun j b' h1 h2 => ha j b' h1 (by omega)⟩
  | some b0 =>
   obtain ⟨f1,f2⟩:=fold_asc (b:=b0) i1 (hn b0 (List.mem_of_getElem? h))
   refine ⟨f1,fun x => ?_⟩
   show x∈foldR (mapR L n) b0 ↔ _
   rw [f2,i2]
   constructor
   ·rintro (hx | ⟨⟨i,b,hi,hb,hx,ha⟩,hk⟩)
    ·exact ⟨n,b0,by omega,h,hx,fun j b' h1 h2 => by omega⟩
    ·refine ⟨i,b,by omega,hb,hx,fun j b' h1 h2 h3 => ?_⟩
     by_cases e : j = n
     ·subst e; rw [h] at h3; cases h3; exact hk
     ·exact ha j b' h1 (by omega) h3
   ·rintro ⟨i,b,hi,hb,hx,ha⟩
    by_cases e : i = n
    ·subst e; rw [h] at hb; cases hb; exact .inl hx
    ·exact .inr ⟨⟨i,b,by omega,hb,hx,fun j b' h1 h2 => ha j b' h1 (by omega)⟩,ha n b0 (by omega) (by omega) h⟩
structure StoreIs (L : List (List Wr)) (es : List Ent) : Prop where
 nodup : ∀ b∈L,(b.map (·.key)).Nodup
 len : L.length≤1000000
 sorted : Sorted es
 mem : ∀ e,e∈es ↔ ∃ i b w,L[i]? = some b∧w∈b∧e = ⟨w.key,((i + 1 : Nat) : Int),w.del,w.val⟩
theorem StoreIs.seq {L : List (List Wr)} {es : List Ent} (h : StoreIs L es) : ∀ e∈es,1≤e.seq∧e.seq≤L.length∧e.seq≤1000000:=fun e he => by
 obtain ⟨i,b,w,h1,_,rfl⟩:=(h.mem e).1 he
 have:=(List.getElem?_eq_some_iff.1 h1).1
 have:=h.len
 refine ⟨?_,?_,?_⟩ <;> simp only <;> omega
theorem StoreIs.nil : StoreIs [] []:=⟨by simp,by simp,List.Pairwise.nil,by simp⟩
theorem StoreIs.step {L : List (List Wr)} {es es' : List Ent} {b : List Wr} (h : StoreIs L es) (hb : (b.map (·.key)).Nodup) (hl : L.length < 1000000) (hs : Sorted es') (he : es' = (entsB ((L.length + 1 : Nat) : Int) b).foldl putE es) : StoreIs (L ++ [b]) es':=by
 refine ⟨fun x hx => ?_,by simp; omega,hs,fun e => ?_⟩
 ·rcases List.mem_append.1 hx with hx | hx
  ·exact h.nodup x hx
  ·rw [List.mem_singleton.1 hx]; exact hb
 ·rw [he,(fold_perm _ _).mem_iff,List.mem_append,h.mem]
  constructor
  ·rintro (hx | ⟨i,b',w,h1,h2,h3⟩)
   ·obtain ⟨w,hw,rfl⟩:=List.mem_map.1 hx
    exact ⟨L.length,b,w,by simp,hw,rfl⟩
   ·exact ⟨i,b',w,by rw [List.getElem?_append_left (List.getElem?_eq_some_iff.1 h1).1]; exact h1,h2,h3⟩
  ·rintro ⟨i,b',w,h1,h2,h3⟩
   by_cases hi : i < L.length
   ·rw [List.getElem?_append_left hi] at h1
    exact .inr ⟨i,b',w,h1,h2,h3⟩
   ·have hil:=(List.getElem?_eq_some_iff.1 h1).1
    rw [List.length_append,List.length_singleton] at hil
    obtain rfl : i = L.length:=by omega
    simp at h1
    subst h1
    exact .inl (List.mem_map.2 ⟨w,h2,h3.symm⟩)
theorem StoreIs.viz {L : List (List Wr)} {es : List Ent} (h : StoreIs L es) (n : Nat) (x : Pr) : (∃ e∈es,vizE es n e = true∧(⟨e.key,e.val⟩ : Pr) = x) ↔ ∃ w∈mapR L n,w.del = false∧(⟨w.key,w.val⟩ : Pr) = x:=by
 obtain ⟨_,m2⟩:=map_mem h.nodup n
 constructor
 ·rintro ⟨e,he,hv,rfl⟩
  obtain ⟨v1,v2,v3⟩:=viz_iff.1 hv
  obtain ⟨i,b,w,h1,h2,rfl⟩:=(h.mem e).1 he
  simp only at v1 v2 v3
  refine ⟨w,(m2 w).2 ⟨i,b,by omega,h1,h2,fun j b' hj hjn hb' y hy hk => ?_⟩,v2,rfl⟩
  have:=v3 ⟨y.key,((j + 1 : Nat) : Int),y.del,y.val⟩ ((h.mem _).2 ⟨j,b',y,hb',hy,rfl⟩) hk (by simp only; omega)
  simp only at this
  omega
 ·rintro ⟨w,hw,hd,rfl⟩
  obtain ⟨i,b,hi,h1,h2,ha⟩:=(m2 w).1 hw
  refine ⟨⟨w.key,((i + 1 : Nat) : Int),w.del,w.val⟩,(h.mem _).2 ⟨i,b,w,h1,h2,rfl⟩,viz_iff.2 ⟨by simp only; omega,hd,fun x hx hk hs => ?_⟩,rfl⟩
  obtain ⟨j,b',y,g1,g2,rfl⟩:=(h.mem x).1 hx
  simp only at hk hs ⊢
  by_cases hj : i < j
  ·exact absurd hk (ha j b' hj (by omega) g1 y g2)
  ·omega
theorem StoreIs.vizAsc {L : List (List Wr)} {es : List Ent} (h : StoreIs L es) (n : Int) (a b : Str) : ((es.filter fun e => inAB a b e.key && vizE es n e).map fun e => (⟨e.key,e.val⟩ : Pr)).Pairwise fun x y => cmpS x.key y.key < 0:=by
 rw [List.pairwise_map]
 refine List.Pairwise.imp_of_mem (fun {x y} hx hy hxy => ?_) (h.sorted.filter _)
 obtain ⟨hx1,hx2⟩:=List.mem_filter.1 hx
 obtain ⟨hy1,hy2⟩:=List.mem_filter.1 hy
 rw [Bool.and_eq_true] at hx2 hy2
 rcases ltE_iff.1 hxy with h | ⟨h1,h2⟩
 ·exact h
 ·have a1:=(viz_iff.1 hx2.2)
  have a2:=(viz_iff.1 hy2.2).2.2 x hx1 h1 a1.1
  omega
theorem StoreIs.scan {L : List (List Wr)} {es : List Ent} (h : StoreIs L es) (n : Nat) (a b : Str) : scanE es a b n = (((mapR L n).filter fun w => inAB a b w.key && !w.del).map fun w => (⟨w.key,w.val⟩ : Pr)).take 64:=by
 rw [scan_filter h.sorted fun e he => (h.seq e he).2.2,List.map_take]
 congr 1
 obtain ⟨m1,_⟩:=map_mem h.nodup n
 refine asc_unique (fun p : Pr => p.key) (h.vizAsc n a b) ?_ fun x => ?_
 ·rw [List.pairwise_map]
  exact m1.filter _
 ·have hv:=h.viz n x
  simp only [List.mem_map,List.mem_filter,Bool.and_eq_true,Bool.not_eq_true']
  constructor
  ·rintro ⟨e,⟨he,hi,hvz⟩,rfl⟩
   obtain ⟨w,hw,hd,e2⟩:=hv.1 ⟨e,he,hvz,rfl⟩
   have : w.key = e.key:=congrArg Pr.key e2
   exact ⟨w,⟨hw,by rw [this]; exact hi,hd⟩,e2⟩
  ·rintro ⟨w,⟨hw,hi,hd⟩,rfl⟩
   obtain ⟨e,he,hvz,e2⟩:=hv.2 ⟨w,hw,hd,rfl⟩
   have : e.key = w.key:=congrArg Pr.key e2
   exact ⟨e,⟨he,by rw [this]; exact hi,hvz⟩,e2⟩
theorem sorted_uniq {es : List Ent} (hs : Sorted es) {x y : Ent} (hx : x∈es) (hy : y∈es) (hk : x.key = y.key) (hq : x.seq = y.seq) : x = y:=by
 obtain ⟨i,hi,rfl⟩:=List.getElem_of_mem hx
 obtain ⟨j,hj,rfl⟩:=List.getElem_of_mem hy
 have hp:=List.pairwise_iff_getElem.1 hs
 rcases Nat.lt_trichotomy i j with h | h | h
 ·rcases ltE_iff.1 (hp i j hi hj h) with h1 | h1
  ·rw [hk,cmpS_refl] at h1; omega
  ·omega
 ·subst h; rfl
 ·rcases ltE_iff.1 (hp j i hj hi h) with h1 | h1
  ·rw [hk,cmpS_refl] at h1; omega
  ·omega
theorem getE_none {es : List Ent} (hs : Sorted es) {k : Str} {n : Int} (h : getE es k n = none) : ∀ x∈es,x.key = k→¬ x.seq≤n:=by
 intro x hx hk hq
 obtain ⟨j,hj,rfl⟩:=List.getElem_of_mem hx
 have hij : firstE es k n≤j:=by
  rcases Nat.lt_or_ge j (firstE es k n) with hlt | hge
  ·rcases ltE_iff.1 (firstE_lt hlt) with h1 | h1
   ·rw [hk,cmpS_refl] at h1; omega
   ·have:=h1.2; simp only at this; omega
  ·exact hge
 have hil : firstE es k n < es.length:=by omega
 have hge:=firstE_ge hs (Nat.le_refl _) hil
 unfold getE at h
 rw [List.getElem?_eq_getElem hil] at h
 simp only at h
 split at h
 ·cases h
 ·rename_i hne
  rcases Nat.lt_or_eq_of_le hij with hlt | e
  ·rcases ltE_iff.1 (List.pairwise_iff_getElem.1 hs _ j hil hj hlt) with h1 | h1
   ·rw [hk] at h1
    rw [Bool.eq_false_iff] at hge
    exact hge (ltE_iff.2 (.inl h1))
   ·exact hne (h1.1.trans hk)
  ·subst e; exact hne hk
theorem getE_some {es : List Ent} (hs : Sorted es) {k : Str} {n : Int} {e : Ent} (h : getE es k n = some e) : e∈es∧e.key = k∧e.seq≤n∧∀ x∈es,x.key = k→x.seq≤n→x.seq≤e.seq:=by
 unfold getE at h
 split at h
 ·rename_i e0 he0
  split at h
  ·rename_i hk0
   obtain rfl:=Option.some.inj h
   obtain ⟨hil,he⟩:=List.getElem?_eq_some_iff.1 he0
   have hge:=firstE_ge hs (Nat.le_refl _) hil
   rw [he,Bool.eq_false_iff,ne_eq,ltE_iff,not_or] at hge
   refine ⟨List.mem_of_getElem? he0,hk0,?_,fun x hx hk hq => ?_⟩
   ·rcases Int.lt_or_le n e0.seq with h1 | h1
    ·exact absurd ⟨hk0,h1⟩ hge.2
    ·exact h1
   ·obtain ⟨j,hj,rfl⟩:=List.getElem_of_mem hx
    rcases Nat.lt_trichotomy j (firstE es k n) with hlt | e | hlt
    ·rcases ltE_iff.1 (firstE_lt hlt) with h1 | h1
     ·rw [hk,cmpS_refl] at h1; omega
     ·have:=h1.2; simp only at this; omega
    ·subst e; rw [he]; exact Int.le_refl _
    ·rcases ltE_iff.1 (List.pairwise_iff_getElem.1 hs _ j hil hj hlt) with h1 | h1
     ·rw [he,hk0,hk,cmpS_refl] at h1; omega
     ·have:=h1.2; rw [he] at this; omega
  ·cases h
 ·cases h
theorem seen_iff {es : List Ent} (hs : Sorted es) {k v : Str} {n : Int} : seenE es k n = some v ↔ ∃ e∈es,vizE es n e = true∧(⟨e.key,e.val⟩ : Pr) = ⟨k,v⟩:=by
 constructor
 ·intro h
  unfold seenE at h
  split at h
  ·rename_i e he
   split at h
   ·cases h
   ·rename_i hd
    obtain rfl:=Option.some.inj h
    obtain ⟨h1,h2,h3,h4⟩:=getE_some hs he
    exact ⟨e,h1,viz_iff.2 ⟨h3,by simpa using hd,fun x hx hk hq => h4 x hx (hk.trans h2) hq⟩,by rw [h2]⟩
  ·cases h
 ·rintro ⟨e,he,hv,heq⟩
  obtain ⟨v1,v2,v3⟩:=viz_iff.1 hv
  have hk : e.key = k:=congrArg Pr.key heq
  have hvl : e.val = v:=congrArg Pr.val heq
  unfold seenE
  cases hg : getE es k n with
  | none => exact absurd v1 (getE_none hs hg e he hk)
  | some e' =>
   obtain ⟨h1,h2,h3,h4⟩:=getE_some hs hg
   have q1:=h4 e he hk v1
   have q2:=v3 e' h1 (h2.trans hk.symm) h3
   have:=sorted_uniq hs he h1 (hk.trans h2.symm) (by omega)
   subst this
   simp only [v2,Bool.false_eq_true,if_false,hvl]
theorem StoreIs.seen {L : List (List Wr)} {es : List Ent} (h : StoreIs L es) {n : Nat} {k v : Str} : seenE es k n = some v ↔ ∃ w∈mapR L n,w.key = k∧w.del = false∧w.val = v:=by
 rw [seen_iff h.sorted,h.viz]
 constructor
 ·rintro ⟨w,hw,hd,e⟩
  exact ⟨w,hw,congrArg Pr.key e,hd,congrArg Pr.val e⟩
 ·rintro ⟨w,hw,rfl,hd,rfl⟩
  exact ⟨w,hw,hd,rfl⟩
theorem mapR_app {L : List (List Wr)} {b : List Wr} {n : Nat} (h : n≤L.length) : mapR (L ++ [b]) n = mapR L n:=by
 unfold mapR
 rw [List.take_append_of_le_length h]
theorem StoreIs.stay {L : List (List Wr)} {es es' : List Ent} {b : List Wr} (h : StoreIs L es) (h' : StoreIs (L ++ [b]) es') {n : Nat} (hn : n≤L.length) : (∀ k,seenE es' k n = seenE es k n)∧∀ x y,scanE es' x y n = scanE es x y n:=by
 refine ⟨fun k => Option.ext fun v => ?_,fun x y => ?_⟩
 ·rw [h'.seen,h.seen,mapR_app hn]
 ·rw [h'.scan,h.scan,mapR_app hn]
def cutPR (p : Pr) : Pr:=⟨p.key.drop 1,p.val⟩
def pairsR (l : List Wr) (a b : Str) (most : Nat) : List Pr:=((l.filter fun w => inAB a b w.key && !w.del).map fun w => (⟨w.key,w.val⟩ : Pr)).take most
def stripR (c : Int) (w : Wr) : Option Wr:=if decide (1 < w.key.length) && decide (w.key[0]? = some (UInt8.ofNat c.toNat)) then some ⟨w.key.drop 1,w.del,w.val⟩ else none
def rowsR (c : Int) (l : List Wr) : List Wr:=l.filterMap (stripR c)
def HomeOk (L : List (List Wr)) : Prop:=∀ b∈L,∀ w∈b,∃ k,k ≠ []∧w.key = keyS 97 k
theorem cmp_cons (x : UInt8) (a b : Str) : cmpS (x :: a) (x :: b) = cmpS a b:=by
 simp only [cmpS,Lib.compareBytes]
 have h0 : ¬ x < x:=by rw [UInt8.lt_iff_toNat_lt]; exact Nat.lt_irrefl _
 rw [if_neg h0,if_neg h0]
theorem inAB_cut {a b k : Str} (hk : k ≠ []) : inAB (lowE 97 a) (highE 97 b) (keyS 97 k) = inAB a b k:=by
 obtain ⟨x,r,rfl⟩ : ∃ x r,k = x :: r:=by
  cases k with
  | nil => exact absurd rfl hk
  | cons x r => exact ⟨x,r,rfl⟩
 have e3 : keyS 97 (x :: r) = 97 :: x :: r:=rfl
 have h1 : Op.bytesLess (keyS 97 (x :: r)) (lowE 97 a) = Op.bytesLess (x :: r) a:=by
  by_cases ha : a = []
  ·subst ha
   have e1 : lowE 97 [] = [97,0]:=by decide
   rw [e1,e3,bytesLess_cmp,bytesLess_cmp,decide_eq_false (low_le x r)]
   simp [cmpS,Lib.compareBytes]
  ·have e1 : lowE 97 a = 97 :: a:=by unfold lowE; rw [if_neg ha]; rfl
   rw [e1,e3,bytesLess_cmp,bytesLess_cmp,cmp_cons]
 have h2 : (decide (highE 97 b = []) || Op.bytesLess (keyS 97 (x :: r)) (highE 97 b)) = (decide (b = []) || Op.bytesLess (x :: r) b):=by
  by_cases hb : b = []
  ·subst hb
   have e2 : highE 97 [] = [98]:=by decide
   rw [e2,e3,bytesLess_cmp,decide_eq_true (lt_high _)]
   simp
  ·have e2 : highE 97 b = 97 :: b:=by unfold highE; rw [if_neg hb]; rfl
   rw [e2,e3,bytesLess_cmp,bytesLess_cmp,cmp_cons,decide_eq_false hb,decide_eq_false (by simp)]
 simp only [inAB]
 rw [h1,h2]
theorem strip_home {w : Wr} {k : Str} (hk : k ≠ []) (h : w.key = keyS 97 k) : stripR 97 w = some ⟨k,w.del,w.val⟩:=by
 unfold stripR
 rw [h,if_pos]
 ·rfl
 ·cases k with
  | nil => exact absurd rfl hk
  | cons x r => simp [keyS]
theorem rows_pairs {l : List Wr} (h : ∀ w∈l,∃ k,k ≠ []∧w.key = keyS 97 k) (a b : Str) : ((l.filter fun w => inAB (lowE 97 a) (highE 97 b) w.key && !w.del).map fun w => (⟨w.key,w.val⟩ : Pr)).map cutPR = ((rowsR 97 l).filter fun w => inAB a b w.key && !w.del).map fun w => (⟨w.key,w.val⟩ : Pr):=by
 induction l with
 | nil => rfl
 | cons w r ih =>
  obtain ⟨k,hk,e⟩:=h w (by simp)
  have i1:=ih fun x hx => h x (by simp [hx])
  have e1 : inAB (lowE 97 a) (highE 97 b) w.key = inAB a b k:=by rw [e,inAB_cut hk]
  have e2 : rowsR 97 (w :: r) = ⟨k,w.del,w.val⟩ :: rowsR 97 r:=by
   unfold rowsR
   rw [List.filterMap_cons,strip_home hk e]
  rw [e2,List.filter_cons,List.filter_cons,e1]
  simp only
  by_cases hq : (inAB a b k && !w.del) = true
  ·rw [if_pos hq,if_pos hq,List.map_cons,List.map_cons,List.map_cons,i1]
   congr 1
   rw [e]; rfl
  ·rw [if_neg hq,if_neg hq,i1]
theorem map_home {L : List (List Wr)} (h : HomeOk L) (hn : ∀ b∈L,(b.map (·.key)).Nodup) (n : Nat) : ∀ w∈mapR L n,∃ k,k ≠ []∧w.key = keyS 97 k:=fun w hw => by
 obtain ⟨i,b,_,h1,h2,_⟩:=((map_mem hn n).2 w).1 hw
 exact h b (List.mem_of_getElem? h1) w h2
theorem StoreIs.scd {L : List (List Wr)} {es : List Ent} (h : StoreIs L es) (hh : HomeOk L) (n : Nat) (a b : Str) : (scanE es (lowE 97 a) (highE 97 b) n).map cutPR = pairsR (rowsR 97 (mapR L n)) a b 64:=by
 rw [h.scan,List.map_take,rows_pairs (map_home hh h.nodup n)]; rfl
end Go.Ab.En
namespace Go.Ab.En
open Go Go.Conc Go.RowKit Go.Ab
set_option maxRecDepth 10000
noncomputable def b107 : Code:=(Go.Proofs.Tryz.f107.body).getD .skip
theorem hb107 : Go.Proofs.Tryz.f107.body = some b107:=by kernel_rfl
def SWith : Spec:=fun H args K => ∃ (own : Bool) (l : List Wr) (w : Wr),args = [.sl own 3 (l.map wrD),.agg [.str w.key,.bool w.del,.str w.val]]∧l.length < 100000∧K H (.sl true 3 ((withR w false l).map wrD))
def MWith (H : List HObj) (l : List Wr) (w : Wr) (m : Nat) (st : St) : Prop:=∃ (i : Nat) (out : List Wr) (dn : Bool),i≤l.length∧m = l.length - i∧withR w false l = out ++ withR w dn (l.drop i)∧(dn = false→out.length≤i)∧out.length≤i + 1 ∧
 st = mk 52 [(0,.sl false 3 (l.map wrD)),(3,.lptr 3 0 0),(5,.sl true 3 (out.map wrD)),(6,.bool dn),(7,.int .i64 i)] [(3,0,[.str w.key,.bool w.del,.str w.val])] H []
set_option maxHeartbeats 4000000 in
theorem rcWith {I : Jd pp} (hI : ∀ w e,I.Ok w e) : RC I 107 SWith:=by
 refine rc_of_code (isObj:=noO) (Γ:=envOf []) (rs:=[4]) mixed hI (envOf_rc (by simp)) Go.Proofs.Tryz.func107 (by kernel_rfl) hb107 Go.Proofs.Tryz.results107 Go.Proofs.Tryz.ntmps107 (by decide) ?_
 rintro H args K ⟨own,l,w,rfl,hl,hK⟩
 refine ⟨by simp,rfl,?_⟩
 unfold b107 Go.Proofs.Tryz.f107
 simp only [Option.getD_some,argSlots,BB1,BQ,List.map_cons,List.map_nil,BB0,Nat.reduceLT,takK,Nat.reduceBEq,BB3,BB4,isO_eq,dropLk,bgen_eq,if_false,constDV,Proofs.Tryz.underlying33,cn32]
 refine w_loop [0,3,5,6,7] (MWith H l w) l.length ?_ ?_
 ·exact ⟨0,[],false,by omega,by omega,by simp,by simp,by simp,by simp only [BB1,List.map_cons,Nat.reduceBEq,BB3,List.map_nil,BB4]; try rfl⟩
 ·rintro m st ⟨i,out,dn,hi,rfl,hw,hol0,hol,rfl⟩
  by_cases e : i < l.length
  ·have e1 : (i : Int) < l.length:=by omega
   have e2 : (0 : Int)≤i:=by omega
   have wi : IntKind.i64.wrap ((i : Int) + 1) = ((i + 1 : Nat) : Int):=by rw [wrap_i64 (by omega) (by omega)]; omega
   rw [List.drop_eq_getElem_cons e,withR] at hw
   have hx:=wrD_get e
   obtain ⟨x,hx'⟩ : ∃ x,l[i] = x:=⟨_,rfl⟩
   rw [hx'] at hw hx
   have hEc : ∀ {a b : Str},a ≠ b→¬ b = a:=fun h e => h e.symm
   have fin : ∀ (out' : List Wr) (dn' : Bool),withR w false l = out' ++ withR w dn' (l.drop (i + 1))→(dn' = false→out'.length≤i + 1)→out'.length≤i + 2→∃ m',m' < l.length - i∧MWith H l w m' (mk 52 [(0,.sl false 3 (l.map wrD)),(3,.lptr 3 0 0),(5,.sl true 3 (out'.map wrD)),(6,.bool dn'),(7,.int .i64 ((i + 1 : Nat) : Int))] [(3,0,[.str w.key,.bool w.del,.str w.val])] H []):=fun out' dn' h1 h3 h2 => ⟨l.length - (i + 1),by omega,i + 1,out',dn',by omega,rfl,h1,h3,by omega,rfl⟩
   have e5 : ∀ y : Wr,out.map wrD ++ [.agg [.str y.key,.bool y.del,.str y.val]] = (out ++ [y]).map wrD:=fun y => by rw [List.map_append]; rfl
   have e6 : ∀ y z : Wr,out.map wrD ++ [.agg [.str y.key,.bool y.del,.str y.val],.agg [.str z.key,.bool z.del,.str z.val]] = (out ++ [y,z]).map wrD:=fun y z => by rw [List.map_append]; rfl
   cases dn
   ·have hol2:=hol0 rfl
    simp only [BB0,BB1,Nat.reduceLT,movK,Nat.reduceBEq,BB3,dropLk,lkGet,dl33,List.length_map,BB4,BQ,e1,cd_t,if_false]
    refine w_draw [] (.quiet 0 (.quiet 1 (.quiet 2 (.quiet 3 (.quiet 4 (.quiet 5 (.quiet 6 (.quiet 7 (.quiet 8 (.quiet 9 (.quiet 10 (.quiet 11 (.done))))))))))))) (by decide) (by kernel_rfl) ?_
    cases hA : Op.bytesLess w.key x.key
    ·by_cases hE : w.key = x.key
     ·have hE2 : x.key = w.key:=hE.symm
      have hle : leS w.key x.key = true:=by simp [leS,hE]
      simp only [hE,BB0,BB5,BB1,Nat.reduceLT,Nat.reduceBEq,BB3,dropLk,BB4,BQ,gs2_tt,fl32_0,if_true,la9,ix33,e2,List.length_map,e1,hx,fv32_0,BB6,constDV,cd_t,movK,Nat.reduceEqDiff,if_false,la32,Nat.reduceAdd,Nat.reduceLeDiff,List.map_cons,List.map_nil,Pos.atSlot,bs33_1,isO_eq,apo33_33,takK,lkGet,ap33_33]
      refine ⟨by omega,by omega,?_⟩
      refine w_draw [] (.quiet 0 (.quiet 1 (.quiet 2 (.quiet 3 (.quiet 4 (.quiet 5 (.quiet 6 (.quiet 7 (.done))))))))) (by decide) (by kernel_rfl) ?_
      simp only [hE2,BB0,BB5,BB1,Nat.reduceLT,Nat.reduceBEq,BB3,dropLk,ix33,e2,List.length_map,e1,BQ,hx,fv32_0,la9,fl32_0,if_true,BB4,ne_eq,cd_f,movK,constDV,wi,takK,List.map_cons,List.map_nil,if_false]
      rw [e5]
      exact fin _ _ (by rw [hw,hle]; simp [hE2]) (by simp; try omega) (by simp; omega)
     ·have hE2 : ¬ x.key = w.key:=fun h => hE h.symm
      have hle : leS w.key x.key = false:=by simp [leS,hA,hE]
      simp only [BB0,BB5,BB1,Nat.reduceLT,Nat.reduceBEq,BB3,dropLk,BB4,BQ,gs2_tt,fl32_0,if_true,la9,ix33,e2,List.length_map,e1,hx,fv32_0,BB6,hA,hE,constDV,cd_f]
      refine w_draw [] (.quiet 0 (.quiet 1 (.quiet 2 (.quiet 3 (.quiet 4 (.quiet 5 (.quiet 6 (.quiet 7 (.done))))))))) (by decide) (by kernel_rfl) ?_
      simp only [BB0,BB5,BB1,Nat.reduceLT,Nat.reduceBEq,BB3,dropLk,ix33,e2,List.length_map,e1,BQ,hx,fv32_0,la9,fl32_0,if_true,BB4,ne_eq,hE2,cd_t,movK,Nat.reduceEqDiff,if_false,lkGet,reduceCtorEq,Pos.atSlot,la32,Nat.reduceAdd,Nat.reduceLeDiff,List.map_cons,List.map_nil,bs33_1,isO_eq,apo33_33,takK,BB6,ap33_33,constDV,wi]
      rw [e5]
      exact ⟨by omega,by omega,fin _ _ (by rw [hw,hle]; simp [hE2]) (by simp; try omega) (by simp; omega)⟩
    ·have hE2 : ¬ x.key = w.key:=fun h => by
      rw [h,bytesLess_cmp,cmpS_refl] at hA; simp at hA
     have hle : leS w.key x.key = true:=by simp [leS,hA]
     simp only [BB0,BB5,BB1,Nat.reduceLT,Nat.reduceBEq,BB3,dropLk,BB4,BQ,gs2_tt,fl32_0,if_true,la9,ix33,e2,List.length_map,e1,hx,fv32_0,BB6,hA,constDV,cd_t,movK,Nat.reduceEqDiff,if_false,la32,Nat.reduceAdd,Nat.reduceLeDiff,List.map_cons,List.map_nil,Pos.atSlot,bs33_1,isO_eq,apo33_33,takK,lkGet,ap33_33]
     refine ⟨by omega,by omega,?_⟩
     refine w_draw [] (.quiet 0 (.quiet 1 (.quiet 2 (.quiet 3 (.quiet 4 (.quiet 5 (.quiet 6 (.quiet 7 (.done))))))))) (by decide) (by kernel_rfl) ?_
     simp only [BB0,BB5,BB1,Nat.reduceLT,Nat.reduceBEq,BB3,dropLk,ix33,e2,List.length_map,e1,BQ,hx,fv32_0,la9,fl32_0,if_true,BB4,ne_eq,hE2,cd_t,movK,Nat.reduceEqDiff,if_false,lkGet,reduceCtorEq,Pos.atSlot,la32,Nat.reduceAdd,Nat.reduceLeDiff,List.map_cons,List.map_nil,bs33_1,isO_eq,apo33_33,takK,BB6,ap33_33,constDV,wi]
     rw [e6]
     exact ⟨by simp; omega,by simp; omega,fin _ _ (by rw [hw,hle]; simp [hE2]) (by simp; try omega) (by simp; omega)⟩
   ·simp only [BB0,BB1,Nat.reduceLT,movK,Nat.reduceBEq,BB3,dropLk,lkGet,dl33,List.length_map,BB4,BQ,e1,cd_t,if_false]
    refine w_draw [] (.quiet 0 (.quiet 1 (.quiet 2 (.quiet 3 (.quiet 4 (.quiet 5 (.quiet 6 (.quiet 7 (.quiet 8 (.quiet 9 (.quiet 10 (.quiet 11 (.done))))))))))))) (by decide) (by kernel_rfl) ?_
    simp only [BB0,BB5,BB1,Nat.reduceLT,Nat.reduceBEq,BB3,dropLk,BB4,BQ,gs2_ft,constDV,BB2,List.map_nil,if_false,cd_f]
    refine w_draw [] (.quiet 0 (.quiet 1 (.quiet 2 (.quiet 3 (.quiet 4 (.quiet 5 (.quiet 6 (.quiet 7 (.done))))))))) (by decide) (by kernel_rfl) ?_
    by_cases hE2 : x.key = w.key
    ·simp only [BB0,BB5,BB1,Nat.reduceLT,Nat.reduceBEq,BB3,dropLk,ix33,e2,List.length_map,e1,BQ,hx,hE2,fv32_0,la9,fl32_0,if_true,BB4,ne_eq,cd_f,movK,constDV,wi,takK,List.map_cons,List.map_nil,if_false]
     exact fin _ _ (by rw [hw]; simp [hE2]) (by simp) (by omega)
    ·simp only [BB0,BB5,BB1,Nat.reduceLT,Nat.reduceBEq,BB3,dropLk,ix33,e2,List.length_map,e1,BQ,hx,fv32_0,la9,fl32_0,if_true,BB4,ne_eq,hE2,cd_t,movK,Nat.reduceEqDiff,if_false,lkGet,reduceCtorEq,Pos.atSlot,la32,Nat.reduceAdd,Nat.reduceLeDiff,List.map_cons,List.map_nil,bs33_1,isO_eq,apo33_33,takK,BB6,ap33_33,constDV,wi]
     rw [e5]
     exact ⟨by omega,by omega,fin _ _ (by rw [hw]; simp [hE2]) (by simp; try omega) (by simp; omega)⟩
  ·obtain rfl : i = l.length:=by omega
   have e1 : ¬ (l.length : Int) < l.length:=by omega
   rw [List.drop_length] at hw
   cases dn
   ·simp only [BB0,BB1,Nat.reduceLT,movK,Nat.reduceBEq,BB3,dropLk,lkGet,dl33,List.length_map,BB4,BQ,e1,cd_f,cd_t,Nat.reduceEqDiff,if_false,if_true,la32,Nat.reduceAdd,Nat.reduceLeDiff,List.map_cons,List.map_nil,Pos.atSlot,bs33_1,isO_eq,apo33_33,takK,BB6,ap33_33]
    have e5 : out.map wrD ++ [.agg [.str w.key,.bool w.del,.str w.val]] = (out ++ [w]).map wrD:=by rw [List.map_append]; rfl
    rw [e5]
    rw [hw] at hK
    exact ⟨by omega,by omega,hK⟩
   ·simp only [BB0,BB1,Nat.reduceLT,movK,Nat.reduceBEq,BB3,dropLk,lkGet,dl33,List.length_map,BB4,BQ,e1,cd_f,Nat.reduceEqDiff,if_false,takK,if_true,BB6,Pos.atSlot]
    rw [hw] at hK
    simpa [withR] using hK
end Go.Ab.En
namespace Go.Ab.En
open Go Go.Conc Go.RowKit Go.Ab
set_option maxRecDepth 10000
theorem withR_len (w : Wr) : ∀ (d : Bool) (l : List Wr),(withR w d l).length≤l.length + 1
 | d,[] => by cases d <;> simp [withR]
 | d,x :: r => by
  have h1:=withR_len w (d || leS w.key x.key) r
  rw [withR,List.length_append,List.length_append]
  cases d
  ·cases h : leS w.key x.key
   ·rw [h] at h1
    simp at h1 ⊢
    split <;> simp <;> omega
   ·rw [h,Bool.false_or,with_done] at *
    have:=List.length_filter_le (fun y => decide (y.key ≠ w.key)) r
    simp at this ⊢
    split <;> simp <;> omega
  ·rw [Bool.true_or,with_done] at *
   have:=List.length_filter_le (fun y => decide (y.key ≠ w.key)) r
   simp at this ⊢
   split <;> simp <;> omega
theorem foldR_len (b : List Wr) : ∀ acc,(foldR acc b).length≤acc.length + b.length:=by
 induction b with
 | nil => intro acc; simp [foldR]
 | cons w r ih =>
  intro acc
  have h1:=ih (withR w false acc)
  have h2:=withR_len w false acc
  show (foldR (withR w false acc) r).length≤_
  rw [List.length_cons]; omega
theorem foldR_snoc (acc b : List Wr) (w : Wr) : foldR acc (b ++ [w]) = withR w false (foldR acc b):=by simp [foldR]
noncomputable def b49 : Code:=(Go.Proofs.Tryz.f49.body).getD .skip
theorem hb49 : Go.Proofs.Tryz.f49.body = some b49:=by kernel_rfl
def SNeatR : Spec:=fun H args K => ∃ (own : Bool) (l : List Wr),args = [.sl own 3 (l.map wrD)]∧l.length < 10000∧K H (.sl true 3 ((foldR [] l).map wrD))
def MNeatR (H : List HObj) (l : List Wr) (m : Nat) (st : St) : Prop:=∃ (i : Nat),i≤l.length∧m = l.length - i ∧
 st = mk 18 [(0,.sl false 3 (l.map wrD)),(3,.sl true 3 ((foldR [] (l.take i)).map wrD)),(4,.int .i64 i)] [] H []
set_option maxHeartbeats 4000000 in
theorem rcNeatR {I : Jd pp} (hI : ∀ w e,I.Ok w e) : RC I 49 SNeatR:=by
 refine rc_of_code (isObj:=noO) (Γ:=envOf [(107,SWith)]) (rs:=[2]) mixed hI (envOf_rc (by simpa using rcWith hI)) Go.Proofs.Tryz.func49 (by kernel_rfl) hb49 Go.Proofs.Tryz.results49 Go.Proofs.Tryz.ntmps49 (by decide) ?_
 rintro H args K ⟨own,l,rfl,hl,hK⟩
 refine ⟨by simp,rfl,?_⟩
 unfold b49 Go.Proofs.Tryz.f49
 simp only [Option.getD_some,argSlots,BB1,BB0,constDV,Proofs.Tryz.underlying33,cn32,dropLk]
 refine w_loop [0,3,4] (MNeatR H l) l.length ?_ ?_
 ·exact ⟨0,by omega,by omega,by simp only [BB1,List.map_cons,Nat.reduceBEq,BB3,List.map_nil,List.take_zero,BB4]; try rfl⟩
 ·rintro m st ⟨i,hi,rfl,rfl⟩
  by_cases e : i < l.length
  ·have e1 : (i : Int) < l.length:=by omega
   have e2 : (0 : Int)≤i:=by omega
   have wi : IntKind.i64.wrap ((i : Int) + 1) = ((i + 1 : Nat) : Int):=by rw [wrap_i64 (by omega) (by omega)]; omega
   have hx:=wrD_get e
   have hfl:=foldR_len (l.take i) []
   have htk : foldR [] (l.take (i + 1)) = withR l[i] false (foldR [] (l.take i)):=by rw [List.take_succ_eq_append_getElem e,foldR_snoc]
   simp only [BB0,BB1,Nat.reduceLT,movK,Nat.reduceBEq,BB3,dropLk,lkGet,dl33,List.length_map,BB4,BQ,e1,cd_t,Nat.reduceEqDiff,if_false,reduceCtorEq,Pos.atSlot,ix33,e2,hx,la32,Nat.reduceAdd,Nat.reduceLeDiff,List.map_cons,List.map_nil,BB5,if_true]
   refine ⟨_,_,l[i],rfl,by rw [List.length_take] at hfl; simp at hfl; omega,?_⟩
   simp only [BB1,BB5,Pos.isHp,BQ,if_true,dropLk,Nat.reduceBEq,Pos.atSlot,if_false,BB0,Nat.reduceLT,takK,BB3,movK,BB4,constDV,wi,List.map_cons,List.map_nil]
   refine ⟨l.length - (i + 1),by omega,i + 1,by omega,rfl,?_⟩
   rw [htk]
  ·obtain rfl : i = l.length:=by omega
   have e1 : ¬ (l.length : Int) < l.length:=by omega
   simp only [List.take_length,BB0,BB1,Nat.reduceLT,movK,Nat.reduceBEq,BB3,dropLk,lkGet,dl33,List.length_map,BB4,BQ,e1,cd_f,Nat.reduceEqDiff,if_false,takK,if_true,BB6,Pos.atSlot]
   exact hK
noncomputable def b106 : Code:=(Go.Proofs.Tryz.f106.body).getD .skip
theorem hb106 : Go.Proofs.Tryz.f106.body = some b106:=by kernel_rfl
def SIw6 : Spec:=fun H args K => ∃ w : Wr,args = [.agg [.str w.key,.bool w.del,.str w.val]]∧K H (.bool (isWr w))
theorem rcIw6 {I : Jd pp} (hI : ∀ w e,I.Ok w e) : RC I 106 SIw6:=by
 refine rc_of_code (isObj:=noO) (Γ:=envOf []) (rs:=[2]) mixed hI (envOf_rc (by simp)) Go.Proofs.Tryz.func106 (by kernel_rfl) hb106 Go.Proofs.Tryz.results106 Go.Proofs.Tryz.ntmps106 (by decide) ?_
 rintro H args K ⟨⟨k,d,v⟩,rfl,hK⟩
 refine ⟨by simp,rfl,?_⟩
 unfold b106 Go.Proofs.Tryz.f106
 simp only [Option.getD_some,argSlots,BB1,List.map_cons,List.map_nil,BB0,Nat.reduceLT,takK,BB3,BQ,BB4,isO_eq,dropLk,bgen_eq,if_false,constDV,Nat.reduceBEq,fl32_0,if_true,la9,dl9,movK,gs2_bool,fl32_2,fl32_1,la4,BB6,BB2]
 refine ⟨fun h1 => ⟨fun h2 => ⟨fun h3 => ⟨fun h4 => ?_,fun h4 => ?_⟩,fun h3 => ?_⟩,fun h2 => ?_⟩,fun h1 => ?_⟩ <;> first | exact hK | (simp only [isWr, *,Bool.true_and,Bool.false_and,Bool.and_true,Bool.and_false,Bool.or_true,Bool.or_false,Bool.true_or,Bool.false_or,Bool.not_true,Bool.not_false,if_true,if_false] at hK; exact hK)
noncomputable def b48 : Code:=(Go.Proofs.Tryz.f48.body).getD .skip
theorem hb48 : Go.Proofs.Tryz.f48.body = some b48:=by kernel_rfl
def SIs12 : Spec:=fun H args K => ∃ (own : Bool) (l : List Wr),args = [.sl own 3 (l.map wrD)]∧isBatch l = true∧K H (.bool true)
theorem okB_at : ∀ {l : List Wr} {a : Str},okB a l = true→(∀ i (h : i < l.length),isWr l[i] = true)∧(∀ (h : 0 < l.length),leS l[0].key a = false)∧∀ i (h : i + 1 < l.length),leS l[i + 1].key l[i].key = false
 | [],_,_ => ⟨fun i h => by simp at h,fun h => by simp at h,fun i h => by simp at h⟩
 | w :: r,a,h => by
  rw [okB,Bool.and_eq_true,Bool.and_eq_true,Bool.not_eq_true'] at h
  obtain ⟨h1,h2,h3⟩:=h
  obtain ⟨i1,i2,i3⟩:=okB_at h3
  refine ⟨fun i hi => ?_,fun _ => h2,fun i hi => ?_⟩
  ·cases i with
   | zero => exact h1
   | succ i => exact i1 i (by simpa using hi)
  ·cases i with
   | zero => exact i2 (by simpa using hi)
   | succ i => exact i3 i (by simpa using hi)
def MIs12 (H : List HObj) (l : List Wr) (m : Nat) (st : St) : Prop:=∃ (i : Nat),i≤l.length∧m = l.length - i ∧
 st = mk 37 [(0,.sl false 3 (l.map wrD)),(3,.int .i64 i)] [] H []
set_option maxHeartbeats 4000000 in
theorem rcIs12 {I : Jd pp} (hI : ∀ w e,I.Ok w e) : RC I 48 SIs12:=by
 refine rc_of_code (isObj:=noO) (Γ:=envOf [(106,SIw6)]) (rs:=[2]) mixed hI (envOf_rc (by simpa using rcIw6 hI)) Go.Proofs.Tryz.func48 (by kernel_rfl) hb48 Go.Proofs.Tryz.results48 Go.Proofs.Tryz.ntmps48 (by decide) ?_
 rintro H args K ⟨own,l,rfl,hb,hK⟩
 rw [isBatch,Bool.and_eq_true,decide_eq_true_eq] at hb
 obtain ⟨k1,_,k3⟩:=okB_at hb.1
 have hl:=hb.2
 refine ⟨by simp,rfl,?_⟩
 unfold b48 Go.Proofs.Tryz.f48
 simp only [Option.getD_some,argSlots,BB1,BB0,constDV,dropLk]
 refine w_loop [0,3] (MIs12 H l) l.length ?_ ?_
 ·exact ⟨0,by omega,by omega,by simp only [BB1,List.map_cons,Nat.reduceBEq,BB3,List.map_nil,BB4]; try rfl⟩
 ·rintro m st ⟨i,hi,rfl,rfl⟩
  by_cases e : i < l.length
  ·have e1 : (i : Int) < l.length:=by omega
   have e2 : (0 : Int)≤i:=by omega
   have wi : IntKind.i64.wrap ((i : Int) + 1) = ((i + 1 : Nat) : Int):=by rw [wrap_i64 (by omega) (by omega)]; omega
   have hx:=wrD_get e
   have hw:=k1 i e
   have fin : ∃ m',m' < l.length - i∧MIs12 H l m' (mk 37 [(0,.sl false 3 (l.map wrD)),(3,.int .i64 ((i + 1 : Nat) : Int))] [] H []):=⟨l.length - (i + 1),by omega,i + 1,by omega,rfl,rfl⟩
   by_cases h0 : i = 0
   ·subst h0
    have e1 : (0 : Int) < l.length:=by omega
    have w1 : IntKind.i64.wrap ((0 : Int) + 1) = ((0 + 1 : Nat) : Int):=by decide
    have hx0 : (l.map wrD).getD 0 .undef = .agg [.str l[0].key,.bool l[0].del,.str l[0].val]:=hx
    simp only [BB4,BB0,BB1,Nat.reduceLT,movK,Nat.reduceBEq,BB3,dropLk,lkGet,dl33,List.length_map,BQ,e1,cd_t,if_false]
    refine w_draw [4] (.quiet 0 (.quiet 1 (.quiet 2 (.quiet 3 (.acts [(4,[],.quiet 5 (.quiet 6 (.quiet 7 (.quiet 8 (.quiet 9 (.quiet 10 (.quiet 11 (.quiet 12 (.quiet 13 (.quiet 14 (.quiet 15 (.quiet 16 (.quiet 17 (.quiet 18 (.quiet 19 (.quiet 20 (.quiet 21 (.quiet 22 (.quiet 23 (.done))))))))))))))))))))]))))) (by decide) (by kernel_rfl) ?_
    simp only [BB0,BB5,BB1,Nat.reduceLT,Nat.reduceBEq,BB3,dropLk,ix33,Int.reduceLE,List.length_map,e1,Int.reduceToNat,hx0,BQ,la32,Nat.reduceAdd,Nat.reduceLeDiff,List.map_cons,List.map_nil,BB4,if_true]
    refine ⟨_,rfl,?_⟩
    rw [hw]
    simp only [BB1,BB5,Pos.isHp,BQ,dropLk,dropLks,BB0,Nat.reduceLT,BB3,BB4,gs2_ff,Nat.reduceBEq,constDV,Int.reduceLT,gs2_ft,BB2,List.map_nil,if_false,cd_f,movK,Int.reduceAdd,Int.reduceNeg,Int.reduceLE,takK,List.map_cons]
    exact fin
   ·have h1 : (0 : Int) < i:=by omega
    have e3 : (0 : Int)≤(i : Int) - 1:=by omega
    have e4 : (i : Int) - 1 < l.length:=by omega
    have w3 : IntKind.i64.wrap ((i : Int) - 1) = ((i - 1 : Nat) : Int):=by rw [wrap_i64 (by omega) (by omega)]; omega
    have e5 : (0 : Int)≤((i - 1 : Nat) : Int):=by omega
    have e6 : ((i - 1 : Nat) : Int) < l.length:=by omega
    have hy:=wrD_get (ws:=l) (i:=i - 1) (by omega)
    have hle : (Op.bytesLess l[i].key l[i - 1].key || decide (l[i].key = l[i - 1].key)) = false:=by
     have h:=k3 (i - 1) (by omega)
     have hq : i - 1 + 1 = i:=by omega
     simp only [hq] at h
     exact h
    simp only [BB0,BB1,Nat.reduceLT,movK,Nat.reduceBEq,BB3,dropLk,lkGet,dl33,List.length_map,BB4,BQ,e1,cd_t,if_false]
    refine w_draw [4] (.quiet 0 (.quiet 1 (.quiet 2 (.quiet 3 (.acts [(4,[],.quiet 5 (.quiet 6 (.quiet 7 (.quiet 8 (.quiet 9 (.quiet 10 (.quiet 11 (.quiet 12 (.quiet 13 (.quiet 14 (.quiet 15 (.quiet 16 (.quiet 17 (.quiet 18 (.quiet 19 (.quiet 20 (.quiet 21 (.quiet 22 (.quiet 23 (.done))))))))))))))))))))]))))) (by decide) (by kernel_rfl) ?_
    simp only [BB0,BB5,BB1,Nat.reduceLT,Nat.reduceBEq,BB3,dropLk,ix33,e2,List.length_map,e1,BQ,hx,la32,Nat.reduceAdd,Nat.reduceLeDiff,List.map_cons,List.map_nil,BB4,if_true]
    refine ⟨_,rfl,?_⟩
    rw [hw]
    simp only [BB1,BB5,Pos.isHp,BQ,dropLk,dropLks,BB0,Nat.reduceLT,BB3,BB4,gs2_ff,Nat.reduceBEq,constDV,h1,gs2_tt,ix33,e2,List.length_map,e1,hx,fv32_0,la9,w3,e5,e6,hy,BB6,hle,if_true,if_false,cd_f,movK,wi,takK,List.map_cons,List.map_nil]
    exact fin
  ·obtain rfl : i = l.length:=by omega
   have e1 : ¬ (l.length : Int) < l.length:=by omega
   simp only [BB0,BB1,Nat.reduceLT,movK,Nat.reduceBEq,BB3,dropLk,lkGet,dl33,List.length_map,BB4,BQ,e1,cd_f,constDV,hl,takK,BB6,if_false,if_true]
   exact hK
end Go.Ab.En
namespace Go.Ab.En
open Go Go.Conc Go.RowKit Go.Ab
set_option maxRecDepth 10000
def isRD : ObjT:=fun t => t == 73
theorem isRD_eq {t : TypeId} : isRD t = (t == 73):=_root_.id rfl
noncomputable def b98 : Code:=(Go.Proofs.Tryz.f98.body).getD .skip
theorem hb98 : Go.Proofs.Tryz.f98.body = some b98:=by kernel_rfl
theorem rcKeyR {I : Jd pp} (hI : ∀ w e,I.Ok w e) : RC I 98 SKey:=by
 refine rc_of_code (isObj:=noO) (Γ:=envOf []) (rs:=[4]) mixed hI (envOf_rc (by simp)) Go.Proofs.Tryz.func98 (by kernel_rfl) hb98 Go.Proofs.Tryz.results98 Go.Proofs.Tryz.ntmps98 (by decide) ?_
 rintro H args K ⟨c,k,rfl,h1,hK⟩
 refine ⟨by simp,rfl,?_⟩
 unfold b98 Go.Proofs.Tryz.f98
 simp only [Option.getD_some,argSlots,BB1,BQ,BB0,constDV,dropLk,Nat.reduceLT,movK,Nat.reduceBEq,BB3,bs36_1,isO_eq,BB4,cv36_9,takK,BB6,if_false]
 refine ⟨[UInt8.ofNat c.toNat],by simp [bytesOf],?_⟩
 exact ⟨by simp; omega,hK⟩
noncomputable def b41 : Code:=(Go.Proofs.Tryz.f41.body).getD .skip
theorem hb41 : Go.Proofs.Tryz.f41.body = some b41:=by kernel_rfl
def SSpaced : Spec:=fun H args K => ∃ (v : DV) (ws : List Wr),args = [.int .u8 97,v]∧RowW H v ws∧ws.length < 10000∧(∀ w∈ws,w.key.length < 4000000000000000000)∧K H (.sl true 3 ((homeW 97 ws).map wrD))
def MSpaced (H : List HObj) (v : DV) (ws : List Wr) (m : Nat) (st : St) : Prop:=∃ (i : Nat),i≤ws.length∧m = ws.length - i ∧
 st = mk 35 [(0,.int .u8 97),(1,v),(5,.sl true 3 ((homeW 97 (ws.take i)).map wrD)),(6,.int .i64 i)] [] H []
set_option maxHeartbeats 4000000 in
theorem rcSpaced {I : Jd pp} (hI : ∀ w e,I.Ok w e) : RC I 41 SSpaced:=by
 refine rc_of_code (isObj:=noO) (Γ:=envOf [(98,SKey)]) (rs:=[4]) mixed hI (envOf_rc (by simpa using rcKeyR hI)) Go.Proofs.Tryz.func41 (by kernel_rfl) hb41 Go.Proofs.Tryz.results41 Go.Proofs.Tryz.ntmps41 (by decide) ?_
 rintro H args K ⟨v,ws,rfl,hv,hl,hkl,hK⟩
 rcases hv with ⟨own,rfl⟩ | ⟨id,off,cap,rfl,hr⟩
 ·skip
  refine ⟨by simp,rfl,?_⟩
  unfold b41 Go.Proofs.Tryz.f41
  simp only [Option.getD_some,argSlots,BB1,Nat.zero_add,BB0,constDV,Proofs.Tryz.underlying33,cn32,dropLk]
  refine w_loop [0,1,5,6] (MSpaced H (.sl false 3 (ws.map wrD)) ws) ws.length ?_ ?_
  ·exact ⟨0,by omega,by omega,by simp only [BB1,List.map_cons,Nat.reduceBEq,BB3,List.map_nil,List.take_zero,BB4]; try rfl⟩
  ·rintro m st ⟨i,hi,rfl,rfl⟩
   by_cases e : i < ws.length
   ·have e1 : (i : Int) < ws.length:=by omega
    have e2 : (0 : Int)≤i:=by omega
    have wi : IntKind.i64.wrap ((i : Int) + 1) = ((i + 1 : Nat) : Int):=by rw [wrap_i64 (by omega) (by omega)]; omega
    have hx:=wrD_get e
    simp only [BB0,BB1,Nat.reduceLT,movK,Nat.reduceBEq,BB3,dropLk,lkGet,dl33,List.length_map,BB4,BQ,e1,cd_t,if_false]
    refine w_draw [0,7,18,19,20,21] (.quiet 1 (.quiet 2 (.quiet 3 (.quiet 4 (.quiet 5 (.quiet 6 (.quiet 8 (.quiet 9 (.quiet 10 (.quiet 11 (.quiet 12 (.quiet 13 (.quiet 14 (.quiet 15 (.quiet 16 (.quiet 17 (.acts [(0,[17,16,15,14,13,12,11,10,9,8,6,5,4,3,2,1],.acts [(7,[17,16,15,14,13,12,11,10,9,8],.acts [(18,[],.acts [(19,[],.acts [(20,[],.acts [(21,[],.done)])])])])]),(7,[17,16,15,14,13,12,11,10,9,8],.acts [(0,[17,16,15,14,13,12,11,10,9,8,6,5,4,3,2,1],.acts [(18,[],.acts [(19,[],.acts [(20,[],.acts [(21,[],.done)])])])]),(18,[],.acts [(0,[17,16,15,14,13,12,11,10,9,8,6,5,4,3,2,1],.acts [(19,[],.acts [(20,[],.acts [(21,[],.done)])])]),(19,[],.acts [(0,[17,16,15,14,13,12,11,10,9,8,6,5,4,3,2,1],.acts [(20,[],.acts [(21,[],.done)])])])])])]))))))))))))))))) (by decide) (by kernel_rfl) ?_
    simp only [BB0,BB5,BB1,Nat.reduceLT,Nat.reduceBEq,BB3,dropLk,ix33,e2,List.length_map,e1,BQ,hx,fv32_0,la9,fv32_1,la4,fv32_2,movK,Nat.reduceEqDiff,if_false,and_self,dropLks,Pos.atSlot,BB4,if_true,List.map_cons,List.map_nil]
    have htk : homeW 97 (ws.take (i + 1)) = homeW 97 (ws.take i) ++ [⟨keyS 97 ws[i].key,ws[i].del,ws[i].val⟩]:=by
     unfold homeW; rw [List.take_succ_eq_append_getElem e,List.map_append]; rfl
    have hll : (homeW 97 (ws.take i)).length = i:=by simp [homeW]; omega
    have e5 : (homeW 97 (ws.take i)).map wrD ++ [.agg [.str (keyS 97 ws[i].key),.bool ws[i].del,.str ws[i].val]] = (homeW 97 (ws.take (i + 1))).map wrD:=by rw [htk,List.map_append]; rfl
    repeat' with_reducible apply And.intro
    all_goals
     refine ⟨97,_,rfl,hkl _ (List.getElem_mem e),?_⟩
     simp only [BB1,BB5,Pos.isHp,BQ,if_true,dropLk,Nat.reduceBEq,Pos.atSlot,if_false,BB0,Nat.reduceLT,BB3,la9,fv32_2,ix33,e2,List.length_map,e1,hx,and_self,la4,fv32_1,dropLks,bd32,bd32_0,takK,BB6,Nat.reduceAdd,Nat.reduceLeDiff,BB4,bd32_1,bd32_2,bs33_1,isO_eq,List.map_cons,List.map_nil,apo33_33,lkGet,ap33_33,hll,e5,movK,constDV,wi,Nat.reduceEqDiff,fv32_0]
     refine ⟨by omega,by omega,ws.length - (i + 1),by omega,i + 1,by omega,rfl,rfl⟩
   ·obtain rfl : i = ws.length:=by omega
    have e1 : ¬ (ws.length : Int) < ws.length:=by omega
    simp only [List.take_length,BB0,BB1,Nat.reduceLT,movK,Nat.reduceBEq,BB3,dropLk,lkGet,dl33,List.length_map,BB4,BQ,e1,cd_f,Nat.reduceEqDiff,if_false,takK,if_true,BB6,Pos.atSlot]
    exact hK
 ·skip
  refine ⟨by simp,rfl,?_⟩
  unfold b41 Go.Proofs.Tryz.f41
  simp only [Option.getD_some,argSlots,BB1,Nat.zero_add,BB3,BB0,constDV,Proofs.Tryz.underlying33,cn32,dropLk]
  refine w_loop [0,1,5,6] (MSpaced H (.hsl id 3 off ws.length cap) ws) ws.length ?_ ?_
  ·exact ⟨0,by omega,by omega,by simp only [BB1,List.map_cons,Nat.reduceBEq,BB3,List.map_nil,List.take_zero,BB4]; try rfl⟩
  ·rintro m st ⟨i,hi,rfl,rfl⟩
   by_cases e : i < ws.length
   ·have e1 : (i : Int) < ws.length:=by omega
    have e2 : (0 : Int)≤i:=by omega
    have wi : IntKind.i64.wrap ((i : Int) + 1) = ((i + 1 : Nat) : Int):=by rw [wrap_i64 (by omega) (by omega)]; omega
    obtain ⟨cs,k1,k2⟩:=hr.2 (by intro h; rw [h] at e; simp at e)
    obtain ⟨r,hx⟩:=hroww_cells k2 e
    have hx1 : cs.drop (off + i * 3 + 1) = .bool (ws[i]).del :: .str (ws[i]).val :: r:=by have h:=congrArg (List.drop 1) hx; rw [List.drop_drop] at h; exact h
    have hx2 : cs.drop (off + i * 3 + 2) = .str (ws[i]).val :: r:=by have h:=congrArg (List.drop 2) hx; rw [List.drop_drop] at h; exact h
    simp only [BB0,BB1,Nat.reduceLT,movK,Nat.reduceBEq,BB3,dropLk,dlh33,BB4,BQ,e1,cd_t,if_false]
    refine w_draw [0,7,18,19,20,21] (.quiet 1 (.quiet 2 (.quiet 3 (.quiet 4 (.quiet 5 (.quiet 6 (.quiet 8 (.quiet 9 (.quiet 10 (.quiet 11 (.quiet 12 (.quiet 13 (.quiet 14 (.quiet 15 (.quiet 16 (.quiet 17 (.acts [(0,[17,16,15,14,13,12,11,10,9,8,6,5,4,3,2,1],.acts [(7,[17,16,15,14,13,12,11,10,9,8],.acts [(18,[],.acts [(19,[],.acts [(20,[],.acts [(21,[],.done)])])])])]),(7,[17,16,15,14,13,12,11,10,9,8],.acts [(0,[17,16,15,14,13,12,11,10,9,8,6,5,4,3,2,1],.acts [(18,[],.acts [(19,[],.acts [(20,[],.acts [(21,[],.done)])])])]),(18,[],.acts [(0,[17,16,15,14,13,12,11,10,9,8,6,5,4,3,2,1],.acts [(19,[],.acts [(20,[],.acts [(21,[],.done)])])]),(19,[],.acts [(0,[17,16,15,14,13,12,11,10,9,8,6,5,4,3,2,1],.acts [(20,[],.acts [(21,[],.done)])])])])])]))))))))))))))))) (by decide) (by kernel_rfl) ?_
    simp only [BB0,BB5,BB1,Nat.reduceLT,Nat.reduceBEq,BB3,dropLk,ixh33,e2,e1,BQ,fp32_0,k1,hx,la9,fp32_1,hx1,la4,fp32_2,hx2,movK,Nat.reduceEqDiff,if_false,and_self,dropLks,Pos.atSlot,BB4,if_true,List.map_cons,List.map_nil]
    have htk : homeW 97 (ws.take (i + 1)) = homeW 97 (ws.take i) ++ [⟨keyS 97 ws[i].key,ws[i].del,ws[i].val⟩]:=by
     unfold homeW; rw [List.take_succ_eq_append_getElem e,List.map_append]; rfl
    have hll : (homeW 97 (ws.take i)).length = i:=by simp [homeW]; omega
    have e5 : (homeW 97 (ws.take i)).map wrD ++ [.agg [.str (keyS 97 ws[i].key),.bool ws[i].del,.str ws[i].val]] = (homeW 97 (ws.take (i + 1))).map wrD:=by rw [htk,List.map_append]; rfl
    repeat' with_reducible apply And.intro
    all_goals
     refine ⟨97,_,rfl,hkl _ (List.getElem_mem e),?_⟩
     simp only [BB1,BB5,Pos.isHp,BQ,if_true,dropLk,Nat.reduceBEq,Pos.atSlot,if_false,BB0,Nat.reduceLT,BB3,k1,hx2,la9,fp32_2,ixh33,e2,e1,and_self,hx1,la4,fp32_1,dropLks,bd32,bd32_0,takK,BB6,Nat.reduceAdd,Nat.reduceLeDiff,BB4,bd32_1,bd32_2,bs33_1,isO_eq,List.map_cons,List.map_nil,apo33_33,lkGet,ap33_33,List.length_map,hll,e5,movK,constDV,wi,Nat.reduceEqDiff,hx,fp32_0]
     refine ⟨by omega,by omega,ws.length - (i + 1),by omega,i + 1,by omega,rfl,rfl⟩
   ·obtain rfl : i = ws.length:=by omega
    have e1 : ¬ (ws.length : Int) < ws.length:=by omega
    simp only [List.take_length,BB0,BB1,Nat.reduceLT,movK,Nat.reduceBEq,BB3,dropLk,dlh33,BB4,BQ,e1,cd_f,Nat.reduceEqDiff,if_false,takK,lkGet,if_true,BB6,Pos.atSlot]
    exact hK
noncomputable def b38 : Code:=(Go.Proofs.Tryz.f38.body).getD .skip
theorem hb38 : Go.Proofs.Tryz.f38.body = some b38:=by kernel_rfl
def bD (b : List Wr) : DV:=.sl false 3 (b.map wrD)
def RefAt (H : List HObj) (s : Nat) (L : List (List Wr)) : Prop:=H[s]? = some (.cells [.sl true 1 (L.map bD)])
def SOpenR : Spec:=fun H args K => ∃ (s : Nat) (L : List (List Wr)),args = [.ptr s 0,.int .u8 97]∧RefAt H s L∧K (H ++ [.cells [.ptr s 0,.int .i64 L.length,.int .u8 97,.sl true 5 [],.sl true 3 [],.bool false]]) (.ptr H.length 0)
theorem rcOpenR {I : Jd pp} (hI : ∀ w e,I.Ok w e) : RC I 38 SOpenR:=by
 refine rc_of_code (isObj:=isRD) (Γ:=envOf []) (rs:=[4]) mixed hI (envOf_rc (by simp)) Go.Proofs.Tryz.func38 (by kernel_rfl) hb38 Go.Proofs.Tryz.results38 Go.Proofs.Tryz.ntmps38 (by decide) ?_
 rintro H args K ⟨s,L,rfl,h1,hK⟩
 refine ⟨by simp,rfl,?_⟩
 unfold b38 Go.Proofs.Tryz.f38
 unfold RefAt at h1
 simp only [Option.getD_some,argSlots,BB2,BQ,BB1,BB0,constDV,dropLk,Nat.reduceLT,movK,Nat.reduceBEq,BB3,dnil,fp59_0,h1,la57,addrPos,ia57,if_false,dl57,List.length_map,Pos.atSlot,bd73,isRD_eq,BB7,bd73_0,takK,BB6,Nat.reduceAdd,Nat.reduceLeDiff,BB4,bd73_1,bd73_2,List.map_cons,List.map_nil,bgen_eq,if_true]
 exact hK
noncomputable def b40 : Code:=(Go.Proofs.Tryz.f40.body).getD .skip
theorem hb40 : Go.Proofs.Tryz.f40.body = some b40:=by kernel_rfl
def SDoR : Spec:=fun H args K => ∃ (s : Nat) (L : List (List Wr)) (own : Bool) (l : List Wr),args = [.ptr s 0,.sl own 3 (l.map wrD)]∧RefAt H s L∧L.length < 10000∧l.length < 10000∧isBatch (foldR [] l) = true∧K (H.set s (.cells [.sl true 1 ((L ++ [foldR [] l]).map bD)])) (.tup [.int .i64 ((L.length + 1 : Nat) : Int),.int .i64 0])
set_option maxHeartbeats 4000000 in
theorem rcDoR {I : Jd pp} (hI : ∀ w e,I.Ok w e) : RC I 40 SDoR:=by
 refine rc_of_code (isObj:=noO) (Γ:=envOf [(49,SNeatR),(48,SIs12)]) (rs:=[4,5]) mixed hI (envOf_rc (by simpa using ⟨rcNeatR hI,rcIs12 hI⟩)) Go.Proofs.Tryz.func40 (by kernel_rfl) hb40 Go.Proofs.Tryz.results40 Go.Proofs.Tryz.ntmps40 (by decide) ?_
 rintro H args K ⟨s,L,own,l,rfl,h1,hL,hl,hb,hK⟩
 refine ⟨by simp,rfl,?_⟩
 unfold b40 Go.Proofs.Tryz.f40
 unfold RefAt at h1
 have lt:=(List.getElem?_eq_some_iff.1 h1).1
 have g1 : ∀ X,(H.set s X)[s]? = some X:=fun X => List.getElem?_set_self lt
 simp only [Option.getD_some,argSlots,BB2,BQ,BB1,BB0,constDV,dropLk,Nat.reduceLT,movK,Nat.reduceBEq,BB3,lkGet,BB4,BB5,Nat.reduceEqDiff,if_false,if_true,List.map_cons,List.map_nil]
 refine ⟨_,l,rfl,hl,?_⟩
 simp only [BB1,BB5,Pos.isHp,BQ,dropLk,BB0,Nat.reduceLT,takK,BB3,movK,Nat.reduceEqDiff,if_false,BB4,if_true,List.map_cons,List.map_nil]
 refine ⟨_,_,rfl,hb,?_⟩
 simp only [BB1,BB5,Pos.isHp,BQ,if_true,dropLk,Nat.reduceBEq,Pos.atSlot,if_false,BB0,Nat.reduceLT,BB3,BB4,cd_f,movK,BB2,dnil,fp59_0,h1,la57,addrPos,ia57,isO_eq,apo57_57,constDV,Proofs.Tryz.underlying57,cn33,BB6,Nat.reduceEqDiff,bs57_1,takK,cn57,Nat.reduceLeDiff,Pos.inHp,g1,dl57,and_self,ne_eq,srcC_sl Go.Proofs.Tryz.underlying57,Nat.reduceMul,reduceCtorEq,List.map_cons,List.map_nil,ap57_57,List.length_map]
 refine ⟨by omega,by omega,by omega,by omega,?_⟩
 simpa [bD] using hK
end Go.Ab.En
namespace Go.Ab.En
open Go Go.Conc Go.RowKit Go.Ab
set_option maxRecDepth 10000
theorem bD_get {L : List (List Wr)} {i : Nat} (h : i < L.length) : (L.map bD).getD i .undef = .sl false 3 ((L[i]).map wrD):=by simp [List.getD,h,bD]
noncomputable def b104 : Code:=(Go.Proofs.Tryz.f104.body).getD .skip
theorem hb104 : Go.Proofs.Tryz.f104.body = some b104:=by kernel_rfl
def SMapR : Spec:=fun H args K => ∃ (s n : Nat) (L : List (List Wr)),args = [.ptr s 0,.int .i64 n]∧RefAt H s L∧L.length < 1000∧(∀ b∈L,b.length≤8)∧K H (.sl true 3 ((mapR L n).map wrD))
def MMap1 (H : List HObj) (s n : Nat) (L : List (List Wr)) (m : Nat) (st : St) : Prop:=∃ (i : Nat),i≤L.length∧i≤n∧m = L.length - i ∧
 st = mk 47 [(0,.ptr s 0),(1,.int .i64 n),(5,.sl true 3 ((mapR L i).map wrD)),(6,.int .i64 i)] [] H []
def MMap2 (H : List HObj) (s n i : Nat) (L : List (List Wr)) (b : List Wr) (m : Nat) (st : St) : Prop:=∃ (k : Nat),k≤b.length∧m = b.length - k ∧
 st = mk 47 [(0,.ptr s 0),(1,.int .i64 n),(5,.sl true 3 ((foldR (mapR L i) (b.take k)).map wrD)),(6,.int .i64 i),(7,.int .i64 k)] [] H []
theorem mapR_len {L : List (List Wr)} (h : ∀ b∈L,b.length≤8) : ∀ n,(mapR L n).length≤8 * n
 | 0 => by simp [mapR]
 | n + 1 => by
  have h1:=mapR_len h n
  rw [mapR_succ]
  split
  ·rename_i b hb
   have:=foldR_len b (mapR L n)
   have:=h b (List.mem_of_getElem? hb)
   omega
  ·omega
set_option maxHeartbeats 4000000 in
theorem rcMapR {I : Jd pp} (hI : ∀ w e,I.Ok w e) : RC I 104 SMapR:=by
 refine rc_of_code (isObj:=noO) (Γ:=envOf [(107,SWith)]) (rs:=[4]) mixed hI (envOf_rc (by simpa using rcWith hI)) Go.Proofs.Tryz.func104 (by kernel_rfl) hb104 Go.Proofs.Tryz.results104 Go.Proofs.Tryz.ntmps104 (by decide) ?_
 rintro H args K ⟨s,n,L,rfl,h1,hL,hb,hK⟩
 refine ⟨by simp,rfl,?_⟩
 unfold b104 Go.Proofs.Tryz.f104
 unfold RefAt at h1
 simp only [Option.getD_some,argSlots,BB2,Nat.zero_add,BB1,BB0,constDV,Proofs.Tryz.underlying33,cn32,dropLk]
 refine w_loop [0,1,5,6] (MMap1 H s n L) L.length ?_ ?_
 ·exact ⟨0,by omega,by omega,by omega,by simp only [BB1,List.map_cons,Nat.reduceBEq,BB3,List.map_nil,BB4]; try rfl⟩
 ·rintro m st ⟨i,hi,hin,rfl,rfl⟩
  by_cases e : i < L.length
  ·have e1 : (i : Int) < L.length:=by omega
   have e2 : (0 : Int)≤i:=by omega
   have wi : IntKind.i64.wrap ((i : Int) + 1) = ((i + 1 : Nat) : Int):=by rw [wrap_i64 (by omega) (by omega)]; omega
   have hx:=bD_get e
   obtain ⟨b,hbb⟩ : ∃ b,L[i] = b:=⟨_,rfl⟩
   rw [hbb] at hx
   have hb8:=hb b (hbb ▸ List.getElem_mem e)
   have hml:=mapR_len hb i
   by_cases hn : i < n
   ·have n1 : (i : Int) < n:=by omega
    simp only [BB0,BB1,Nat.reduceLT,movK,Nat.reduceBEq,BB3,dropLk,BB2,dnil,fp59_0,BQ,h1,la57,addrPos,ia57,if_false,dl57,List.length_map,Pos.atSlot,BB4,e1,gs2_tt,n1,constDV,if_true,cd_t]
    refine w_loop [0,1,5,6,7] (MMap2 H s n i L b) b.length ?_ ?_
    ·exact ⟨0,by omega,by omega,by simp only [BB1,List.map_cons,Nat.reduceBEq,BB3,List.map_nil,List.take_zero,BB4]; try rfl⟩
    ·rintro m st ⟨k,hk,rfl,rfl⟩
     by_cases ek : k < b.length
     ·have k1 : (k : Int) < b.length:=by omega
      have k2 : (0 : Int)≤k:=by omega
      have wk : IntKind.i64.wrap ((k : Int) + 1) = ((k + 1 : Nat) : Int):=by rw [wrap_i64 (by omega) (by omega)]; omega
      have hy:=wrD_get ek
      have hfl:=foldR_len (b.take k) (mapR L i)
      have htk : foldR (mapR L i) (b.take (k + 1)) = withR b[k] false (foldR (mapR L i) (b.take k)):=by rw [List.take_succ_eq_append_getElem ek,foldR_snoc]
      simp only [BB0,BB1,Nat.reduceLT,movK,Nat.reduceBEq,BB3,dropLk,BB2,dnil,fp59_0,BQ,h1,la57,addrPos,ia57,if_false,Pos.atSlot,ix57,e2,List.length_map,e1,hx,la33,dl33,BB4,k1,cd_t,Nat.reduceEqDiff,ix33,k2,hy,la32,Nat.reduceAdd,Nat.reduceLeDiff,List.map_cons,List.map_nil,BB5,if_true]
      refine ⟨_,_,b[k],rfl,by rw [List.length_take] at hfl; omega,?_⟩
      simp only [BB1,BB5,Pos.isHp,BQ,if_true,if_false,dropLk,Nat.reduceBEq,Pos.atSlot,BB0,Nat.reduceLT,takK,BB3,movK,BB4,constDV,wk,List.map_cons,List.map_nil]
      refine ⟨b.length - (k + 1),by omega,k + 1,by omega,rfl,?_⟩
      rw [htk]
     ·obtain rfl : k = b.length:=by omega
      have k1 : ¬ (b.length : Int) < b.length:=by omega
      have hsu : mapR L (i + 1) = foldR (mapR L i) b:=by rw [mapR_succ,List.getElem?_eq_getElem e,hbb]
      simp only [List.take_length,BB0,BB1,Nat.reduceLT,movK,Nat.reduceBEq,BB3,dropLk,BB2,dnil,fp59_0,BQ,h1,la57,addrPos,ia57,if_false,Pos.atSlot,ix57,e2,List.length_map,e1,hx,la33,dl33,BB4,k1,cd_f,constDV,wi,takK,List.map_cons,List.map_nil,Nat.reduceEqDiff,reduceCtorEq,lkGet,if_true,BB6]
      refine ⟨L.length - (i + 1),by omega,i + 1,by omega,by omega,rfl,?_⟩
      rw [hsu]
   ·obtain rfl : i = n:=by omega
    have n1 : ¬ (i : Int) < i:=by omega
    simp only [BB0,BB1,Nat.reduceLT,movK,Nat.reduceBEq,BB3,dropLk,BB2,dnil,fp59_0,BQ,h1,la57,addrPos,ia57,if_false,dl57,List.length_map,Pos.atSlot,BB4,e1,gs2_tt,n1,constDV,if_true,cd_f,Nat.reduceEqDiff,takK,lkGet,BB6]
    exact hK
  ·obtain rfl : i = L.length:=by omega
   have e1 : ¬ (L.length : Int) < L.length:=by omega
   have hmm : mapR L n = mapR L L.length:=by unfold mapR; rw [List.take_length,List.take_of_length_le hin]
   rw [hmm] at hK
   simp only [BB0,BB1,Nat.reduceLT,movK,Nat.reduceBEq,BB3,dropLk,BB2,dnil,fp59_0,BQ,h1,la57,addrPos,ia57,if_false,dl57,List.length_map,Pos.atSlot,BB4,e1,gs2_ft,constDV,List.map_nil,cd_f,Nat.reduceEqDiff,takK,lkGet,if_true,BB6]
   exact hK
noncomputable def b43 : Code:=(Go.Proofs.Tryz.f43.body).getD .skip
theorem hb43 : Go.Proofs.Tryz.f43.body = some b43:=by kernel_rfl
def SSameR : Spec:=fun H args K => ∃ (o o2 : Bool) (a b : List Pr),args = [.sl o 2 (a.map prD),.sl o2 2 (b.map prD)]∧a.length < 100000∧b.length < 100000∧K H (.bool (decide (a = b)))
def MSameR (H : List HObj) (a b : List Pr) (m : Nat) (st : St) : Prop:=∃ (i : Nat),i≤a.length∧m = a.length - i∧a.take i = b.take i ∧
 st = mk 26 [(0,.sl false 2 (a.map prD)),(1,.sl false 2 (b.map prD)),(5,.int .i64 i)] [] H []
set_option maxHeartbeats 4000000 in
theorem rcSameR {I : Jd pp} (hI : ∀ w e,I.Ok w e) : RC I 43 SSameR:=by
 refine rc_of_code (isObj:=noO) (Γ:=envOf []) (rs:=[4]) mixed hI (envOf_rc (by simp)) Go.Proofs.Tryz.func43 (by kernel_rfl) hb43 Go.Proofs.Tryz.results43 Go.Proofs.Tryz.ntmps43 (by decide) ?_
 rintro H args K ⟨o,o2,a,b,rfl,la,lb,hK⟩
 refine ⟨by simp,rfl,?_⟩
 unfold b43 Go.Proofs.Tryz.f43
 by_cases hl : a.length = b.length
 ·have hl1 : (a.length : Int) = b.length:=by omega
  simp only [Option.getD_some,argSlots,BB1,BQ,BB0,constDV,dropLk,Nat.reduceLT,movK,Nat.reduceBEq,BB3,lkGet,dl64,List.length_map,hl1,BB4,ne_eq,cd_f,if_false]
  refine w_loop [0,1,5] (MSameR H a b) a.length ?_ ?_
  ·exact ⟨0,by omega,by omega,by simp,by simp only [BB1,List.map_cons,Nat.reduceBEq,BB3,List.map_nil,BB4]; try rfl⟩
  ·rintro m st ⟨i,hi,rfl,ht,rfl⟩
   by_cases e : i < a.length
   ·have e1 : (i : Int) < a.length:=by omega
    have e1b : (i : Int) < b.length:=by omega
    have e2 : (0 : Int)≤i:=by omega
    have eb : i < b.length:=by omega
    have wi : IntKind.i64.wrap ((i : Int) + 1) = ((i + 1 : Nat) : Int):=by rw [wrap_i64 (by omega) (by omega)]; omega
    have hx:=prD_get e
    have hy:=prD_get eb
    have heq : (decide ((a[i]).key = (b[i]).key) && decide ((a[i]).val = (b[i]).val)) = decide (a[i] = b[i]):=by
     rw [Bool.eq_iff_iff]
     simp only [Bool.and_eq_true,decide_eq_true_eq]
     constructor
     ·rintro ⟨h1,h2⟩
      cases ha : a[i]; cases hb : b[i]
      rw [ha,hb] at h1 h2
      simp only at h1 h2
      rw [h1,h2]
     ·intro h; rw [h]; exact ⟨rfl,rfl⟩
    simp only [BB0,BB1,Nat.reduceLT,movK,Nat.reduceBEq,BB3,dropLk,lkGet,dl64,List.length_map,BB4,BQ,e1,cd_t,if_false]
    refine w_draw [] (.quiet 0 (.quiet 1 (.quiet 2 (.quiet 3 (.quiet 4 (.quiet 5 (.quiet 6 (.quiet 7 (.quiet 8 (.done)))))))))) (by decide) (by kernel_rfl) ?_
    by_cases he : a[i] = b[i]
    ·simp only [BB0,BB5,BB1,Nat.reduceLT,Nat.reduceBEq,BB3,dropLk,ix64,e2,List.length_map,e1,BQ,hx,he,la96,Nat.reduceAdd,Nat.reduceLeDiff,List.map_cons,List.map_nil,e1b,hy,eneq96,cd_f,movK,BB4,constDV,wi,takK,if_false]
     refine ⟨a.length - (i + 1),by omega,i + 1,by omega,rfl,?_,rfl⟩
     rw [List.take_succ_eq_append_getElem e,List.take_succ_eq_append_getElem eb,ht,he]
    ·have hne : a ≠ b:=fun h => by subst h; exact he rfl
     simp only [BB0,BB5,BB1,Nat.reduceLT,Nat.reduceBEq,BB3,dropLk,ix64,e2,List.length_map,e1,BQ,hx,la96,Nat.reduceAdd,Nat.reduceLeDiff,List.map_cons,List.map_nil,e1b,hy,eneq96,heq,he,cd_t,constDV,BB6]
     rw [decide_eq_false hne] at hK
     exact hK
   ·obtain rfl : i = a.length:=by omega
    have e1 : ¬ (a.length : Int) < a.length:=by omega
    have hab : a = b:=by rw [List.take_length,hl,List.take_length] at ht; exact ht
    simp only [BB0,BB1,Nat.reduceLT,movK,Nat.reduceBEq,BB3,dropLk,lkGet,dl64,List.length_map,BB4,BQ,e1,cd_f,constDV,BB6,if_true,if_false]
    rw [decide_eq_true hab] at hK
    exact hK
 ·have hl1 : ¬ (a.length : Int) = b.length:=by omega
  have hne : a ≠ b:=fun h => hl (by rw [h])
  simp only [Option.getD_some,argSlots,BB1,BQ,BB0,constDV,dropLk,Nat.reduceLT,movK,Nat.reduceBEq,BB3,lkGet,dl64,List.length_map,BB4,ne_eq,hl1,cd_t,BB6,if_false]
  rw [decide_eq_false hne] at hK
  exact hK
end Go.Ab.En
namespace Go.Ab.En
open Go Go.Conc Go.RowKit Go.Ab
set_option maxRecDepth 10000
def keepR (a b : Str) (w : Wr) : Bool:=inAB a b w.key && !w.del
def allR (a b : Str) (l : List Wr) : List Pr:=(l.filter fun w => inAB a b w.key && !w.del).map fun w => (⟨w.key,w.val⟩ : Pr)
theorem allR_snoc (a b : Str) (l : List Wr) (w : Wr) : allR a b (l ++ [w]) = allR a b l ++ if keepR a b w then [⟨w.key,w.val⟩] else []:=by
 unfold allR keepR
 rw [List.filter_append,List.map_append]
 congr 1
 rw [List.filter_cons]
 cases inAB a b w.key && !w.del <;> rfl
theorem allR_app (a b : Str) (l m : List Wr) : allR a b (l ++ m) = allR a b l ++ allR a b m:=by simp [allR]
noncomputable def b96 : Code:=(Go.Proofs.Tryz.f96.body).getD .skip
theorem hb96 : Go.Proofs.Tryz.f96.body = some b96:=by kernel_rfl
def SPairsR : Spec:=fun H args K => ∃ (o : Bool) (l : List Wr) (a b : Str),args = [.sl o 3 (l.map wrD),.str a,.str b,.int .i64 64]∧l.length < 100000∧K H (.sl true 2 ((pairsR l a b 64).map prD))
def MPairsR (H : List HObj) (l : List Wr) (a b : Str) (m : Nat) (st : St) : Prop:=∃ (i : Nat),i≤l.length∧m = l.length - i∧(allR a b (l.take i)).length≤64 ∧
 st = mk 66 [(0,.sl false 3 (l.map wrD)),(1,.str a),(2,.str b),(3,.int .i64 64),(9,.sl true 2 ((allR a b (l.take i)).map prD)),(10,.int .i64 i)] [] H []
set_option maxHeartbeats 4000000 in
theorem rcPairsR {I : Jd pp} (hI : ∀ w e,I.Ok w e) : RC I 96 SPairsR:=by
 refine rc_of_code (isObj:=noO) (Γ:=envOf []) (rs:=[8]) mixed hI (envOf_rc (by simp)) Go.Proofs.Tryz.func96 (by kernel_rfl) hb96 Go.Proofs.Tryz.results96 Go.Proofs.Tryz.ntmps96 (by decide) ?_
 rintro H args K ⟨o,l,a,b,rfl,hl,hK⟩
 refine ⟨by simp,rfl,?_⟩
 unfold b96 Go.Proofs.Tryz.f96
 simp only [BQ,Option.getD_some,argSlots,BB1,Nat.reduceAdd,BB0,constDV,Proofs.Tryz.underlying64,cn96,dropLk]
 refine w_loop [0,1,2,3,9,10] (MPairsR H l a b) l.length ?_ ?_
 ·exact ⟨0,by omega,by omega,by simp [allR],by simp only [BB1,List.map_cons,Nat.reduceBEq,BB3,List.map_nil,List.take_zero,BB4]; try rfl⟩
 ·rintro m st ⟨i,hi,rfl,ho,rfl⟩
  have hpr : pairsR l a b 64 = (allR a b (l.take i) ++ allR a b (l.drop i)).take 64:=by rw [← allR_app,List.take_append_drop]; rfl
  by_cases e : i < l.length
  ·have e1 : (i : Int) < l.length:=by omega
   have e2 : (0 : Int)≤i:=by omega
   have wi : IntKind.i64.wrap ((i : Int) + 1) = ((i + 1 : Nat) : Int):=by rw [wrap_i64 (by omega) (by omega)]; omega
   have hx:=wrD_get e
   have htk : allR a b (l.take (i + 1)) = allR a b (l.take i) ++ if keepR a b l[i] then [⟨l[i].key,l[i].val⟩] else []:=by rw [List.take_succ_eq_append_getElem e,allR_snoc]
   obtain ⟨out,hout⟩ : ∃ out,allR a b (l.take i) = out:=⟨_,rfl⟩
   simp only [hout] at ho hpr htk ⊢
   by_cases h64 : out.length < 64
   ·have h1 : (out.length : Int) < 64:=by omega
    have skip : keepR a b l[i] = false→∃ m',m' < l.length - i∧MPairsR H l a b m' (mk 66 [(0,.sl false 3 (l.map wrD)),(1,.str a),(2,.str b),(3,.int .i64 64),(9,.sl true 2 (out.map prD)),(10,.int .i64 ((i + 1 : Nat) : Int))] [] H []):=fun h => by
     rw [h] at htk
     simp only [Bool.false_eq_true,if_false,List.append_nil] at htk
     exact ⟨l.length - (i + 1),by omega,i + 1,by omega,rfl,by rw [htk]; exact ho,by rw [htk]⟩
    have more : keepR a b l[i] = true→∃ m',m' < l.length - i∧MPairsR H l a b m' (mk 66 [(0,.sl false 3 (l.map wrD)),(1,.str a),(2,.str b),(3,.int .i64 64),(9,.sl true 2 (out.map prD ++ [.agg [.str l[i].key,.str l[i].val]])),(10,.int .i64 ((i + 1 : Nat) : Int))] [] H []):=fun h => by
     rw [h] at htk
     simp only [if_true] at htk
     exact ⟨l.length - (i + 1),by omega,i + 1,by omega,rfl,by rw [htk]; simp; omega,by rw [htk,List.map_append]; rfl⟩
    cases hd : l[i].del
    ·cases hA : Op.bytesLess l[i].key a
     ·by_cases hb : b = []
      ·subst hb
       have hkp : keepR a [] l[i] = true:=by simp [keepR,inAB,hA,hd]
       simp only [BB0,BB1,Nat.reduceLT,movK,Nat.reduceBEq,BB3,dropLk,lkGet,dl33,List.length_map,BB4,BQ,e1,gs2_tt,Nat.reduceEqDiff,if_false,dl64,Pos.atSlot,h1,constDV,if_true,cd_t,ix33,e2,hx,hd,fv32_1,la4,fv32_0,la9,hA,gs2_tf,BB2,List.map_nil]
       refine w_draw [0,11,12,13,14] (.quiet 1 (.quiet 2 (.quiet 3 (.quiet 4 (.quiet 5 (.quiet 6 (.quiet 7 (.quiet 8 (.quiet 9 (.quiet 10 (.acts [(0,[10,9,8,7,6,5,4,3,2,1],.acts [(11,[],.acts [(12,[],.acts [(13,[],.acts [(14,[],.done)])])])]),(11,[],.acts [(0,[10,9,8,7,6,5,4,3,2,1],.acts [(12,[],.acts [(13,[],.acts [(14,[],.done)])])]),(12,[],.acts [(0,[10,9,8,7,6,5,4,3,2,1],.acts [(13,[],.acts [(14,[],.done)])])])])]))))))))))) (by decide) (by kernel_rfl) ?_
       simp only [BB0,BB5,BB1,Nat.reduceLT,Nat.reduceBEq,BB3,dropLk,ix33,e2,List.length_map,e1,BQ,hx,hd,fv32_0,la9,fv32_2,movK,Nat.reduceEqDiff,if_false,and_self,dropLks,Pos.atSlot,bd96,bd96_0,takK,BB6,Nat.reduceAdd,Nat.reduceLeDiff,BB4,bd96_1,bs64_1,isO_eq,List.map_cons,List.map_nil,apo64_64,lkGet,if_true,ap64_64,constDV,wi]
       exact ⟨by omega,by omega,more hkp⟩
      ·cases hB : Op.bytesLess l[i].key b
       ·have hkp : keepR a b l[i] = false:=by simp [keepR,inAB,hA,hB,hd,hb]
        simp only [BB0,BB1,Nat.reduceLT,movK,Nat.reduceBEq,BB3,dropLk,lkGet,dl33,List.length_map,BB4,BQ,e1,gs2_tt,Nat.reduceEqDiff,if_false,dl64,Pos.atSlot,h1,constDV,if_true,cd_t,ix33,e2,hx,hd,fv32_1,la4,fv32_0,la9,hA,hb,gs2_ff,hB,cd_f,wi,takK,List.map_cons,List.map_nil]
        exact skip hkp
       ·have hkp : keepR a b l[i] = true:=by simp [keepR,inAB,hA,hB,hd,hb]
        simp only [BB0,BB1,Nat.reduceLT,movK,Nat.reduceBEq,BB3,dropLk,lkGet,dl33,List.length_map,BB4,BQ,e1,gs2_tt,Nat.reduceEqDiff,if_false,dl64,Pos.atSlot,h1,constDV,if_true,cd_t,ix33,e2,hx,hd,fv32_1,la4,fv32_0,la9,hA,hb,gs2_ff,hB]
        refine w_draw [0,11,12,13,14] (.quiet 1 (.quiet 2 (.quiet 3 (.quiet 4 (.quiet 5 (.quiet 6 (.quiet 7 (.quiet 8 (.quiet 9 (.quiet 10 (.acts [(0,[10,9,8,7,6,5,4,3,2,1],.acts [(11,[],.acts [(12,[],.acts [(13,[],.acts [(14,[],.done)])])])]),(11,[],.acts [(0,[10,9,8,7,6,5,4,3,2,1],.acts [(12,[],.acts [(13,[],.acts [(14,[],.done)])])]),(12,[],.acts [(0,[10,9,8,7,6,5,4,3,2,1],.acts [(13,[],.acts [(14,[],.done)])])])])]))))))))))) (by decide) (by kernel_rfl) ?_
        simp only [BB0,BB5,BB1,Nat.reduceLT,Nat.reduceBEq,BB3,dropLk,ix33,e2,List.length_map,e1,BQ,hx,hd,fv32_0,la9,fv32_2,movK,Nat.reduceEqDiff,if_false,and_self,dropLks,Pos.atSlot,bd96,bd96_0,takK,BB6,Nat.reduceAdd,Nat.reduceLeDiff,BB4,bd96_1,bs64_1,isO_eq,List.map_cons,List.map_nil,apo64_64,lkGet,if_true,ap64_64,constDV,wi]
        exact ⟨by omega,by omega,more hkp⟩
     ·have hkp : keepR a b l[i] = false:=by simp [keepR,inAB,hA]
      simp only [BB0,BB1,Nat.reduceLT,movK,Nat.reduceBEq,BB3,dropLk,lkGet,dl33,List.length_map,BB4,BQ,e1,gs2_tt,Nat.reduceEqDiff,if_false,dl64,Pos.atSlot,h1,constDV,if_true,cd_t,ix33,e2,hx,hd,fv32_1,la4,fv32_0,la9,hA,gs2_ft,BB2,List.map_nil,cd_f,wi,takK,List.map_cons]
      exact skip hkp
    ·have hkp : keepR a b l[i] = false:=by simp [keepR,hd]
     simp only [BB0,BB1,Nat.reduceLT,movK,Nat.reduceBEq,BB3,dropLk,lkGet,dl33,List.length_map,BB4,BQ,e1,gs2_tt,Nat.reduceEqDiff,if_false,dl64,Pos.atSlot,h1,constDV,if_true,cd_t,ix33,e2,hx,hd,fv32_1,la4,gs2_ft,BB2,List.map_nil,cd_f,wi,takK,List.map_cons]
     exact skip hkp
   ·have h1 : ¬ (out.length : Int) < 64:=by omega
    simp only [BB0,BB1,Nat.reduceLT,movK,Nat.reduceBEq,BB3,dropLk,lkGet,dl33,List.length_map,BB4,BQ,e1,gs2_tt,Nat.reduceEqDiff,if_false,dl64,Pos.atSlot,h1,constDV,if_true,cd_f,takK,BB6]
    rw [hpr,List.take_left' (by omega)] at hK
    exact hK
  ·obtain rfl : i = l.length:=by omega
   have e1 : ¬ (l.length : Int) < l.length:=by omega
   simp only [BB0,BB1,Nat.reduceLT,movK,Nat.reduceBEq,BB3,dropLk,lkGet,dl33,List.length_map,BB4,BQ,e1,gs2_ft,constDV,BB2,List.map_nil,if_false,cd_f,Nat.reduceEqDiff,takK,if_true,BB6,Pos.atSlot]
   rw [hpr,List.drop_length,show allR a b [] = [] from rfl,List.append_nil,List.take_of_length_le ho] at hK
   exact hK
noncomputable def b44 : Code:=(Go.Proofs.Tryz.f44.body).getD .skip
theorem hb44 : Go.Proofs.Tryz.f44.body = some b44:=by kernel_rfl
def SScanR : Spec:=fun H args K => ∃ (s n : Nat) (L : List (List Wr)) (a b : Str),args = [.ptr s 0,.str a,.str b,.int .i64 n]∧RefAt H s L∧L.length < 1000∧(∀ b∈L,b.length≤8)∧n < 1000∧K H (.sl true 2 ((pairsR (mapR L n) a b 64).map prD))
theorem rcScanR {I : Jd pp} (hI : ∀ w e,I.Ok w e) : RC I 44 SScanR:=by
 refine rc_of_code (isObj:=noO) (Γ:=envOf [(104,SMapR),(96,SPairsR)]) (rs:=[8]) mixed hI (envOf_rc (by simpa using ⟨rcMapR hI,rcPairsR hI⟩)) Go.Proofs.Tryz.func44 (by kernel_rfl) hb44 Go.Proofs.Tryz.results44 Go.Proofs.Tryz.ntmps44 (by decide) ?_
 rintro H args K ⟨s,n,L,a,b,rfl,h1,hL,hb,hn,hK⟩
 refine ⟨by simp,rfl,?_⟩
 unfold b44 Go.Proofs.Tryz.f44
 simp only [Option.getD_some,argSlots,BB2,BQ,BB1,Nat.reduceAdd,BB0,constDV,Proofs.Tryz.underlying64,cn96,dropLk,Nat.reduceLT,movK,Nat.reduceBEq,BB3,BB4,BB5,Nat.reduceEqDiff,if_false,if_true,List.map_cons,List.map_nil]
 refine ⟨s,n,L,rfl,h1,hL,hb,?_⟩
 simp only [BB1,BB5,Pos.isHp,BQ,dropLk,BB0,Nat.reduceLT,movK,Nat.reduceBEq,BB3,BB4,constDV,Nat.reduceEqDiff,if_true,if_false,List.map_cons,List.map_nil]
 refine ⟨_,mapR L n,a,b,rfl,by have:=mapR_len hb n; omega,?_⟩
 simp only [BB1,BB5,Pos.isHp,List.filter_nil,dropLk,BB0,Nat.reduceLT,takK,BB3,BB6,true_and]
 exact hK
noncomputable def b97 : Code:=(Go.Proofs.Tryz.f97.body).getD .skip
theorem hb97 : Go.Proofs.Tryz.f97.body = some b97:=by kernel_rfl
def RDealAt (H : List HObj) (r s : Nat) (rs : List Rd) : Prop:=∃ (n : Int) (h : Int) (o : Bool) (w : DV) (o5 : Bool),H[r]? = some (.cells [.ptr s 0,.int .i64 n,.int .u8 h,.sl o5 5 (rs.map rdD),w,.bool o])
def SRowsR : Spec:=fun H args K => ∃ (r s n : Nat) (rs : List Rd) (L : List (List Wr)),args = [.ptr r 0,.int .u8 97,.int .i64 n]∧RDealAt H r s rs∧RefAt H s L∧L.length < 1000∧(∀ b∈L,b.length≤8)∧n < 1000∧(∀ w∈mapR L n,∃ k,k ≠ []∧w.key = keyS 97 k)∧K H (.sl true 3 ((rowsR 97 (mapR L n)).map wrD))
def MRowsR (H : List HObj) (r n : Nat) (l : List Wr) (m : Nat) (st : St) : Prop:=∃ (i : Nat),i≤l.length∧m = l.length - i ∧
 st = mk 60 [(0,.ptr r 0),(1,.int .u8 97),(2,.int .i64 n),(7,.sl true 3 (l.map wrD)),(8,.sl true 3 ((rowsR 97 (l.take i)).map wrD)),(9,.int .i64 i)] [] H []
theorem rowsR_len (l : List Wr) : (rowsR 97 l).length≤l.length:=List.length_filterMap_le _ _
set_option maxHeartbeats 4000000 in
theorem rcRowsR {I : Jd pp} (hI : ∀ w e,I.Ok w e) : RC I 97 SRowsR:=by
 refine rc_of_code (isObj:=noO) (Γ:=envOf [(104,SMapR)]) (rs:=[6]) mixed hI (envOf_rc (by simpa using rcMapR hI)) Go.Proofs.Tryz.func97 (by kernel_rfl) hb97 Go.Proofs.Tryz.results97 Go.Proofs.Tryz.ntmps97 (by decide) ?_
 rintro H args K ⟨r,s,n,rs,L,rfl,⟨q1,q2,q3,q4,q5,h0⟩,h1,hL,hb,hn,hh,hK⟩
 refine ⟨by simp,rfl,?_⟩
 unfold b97 Go.Proofs.Tryz.f97
 simp only [Option.getD_some,argSlots,BB2,BQ,BB1,Nat.reduceAdd,BB0,constDV,Proofs.Tryz.underlying33,cn32,dropLk,Nat.reduceLT,movK,Nat.reduceBEq,BB3,dnil,fp73_0,h0,la56,BB4,BB5,if_true,List.map_cons,List.map_nil]
 refine ⟨s,n,L,rfl,h1,hL,hb,?_⟩
 have hml:=mapR_len hb n
 generalize mapR L n = l at *
 simp only [BB1,BB5,Pos.isHp,List.filter_nil,dropLk,BB0,Nat.reduceLT,takK,BB3,constDV,Proofs.Tryz.underlying33,cn32]
 refine w_loop [0,1,2,7,8,9] (MRowsR H r n l) l.length ?_ ?_
 ·exact ⟨0,by omega,by omega,by simp only [BB1,List.map_cons,Nat.reduceBEq,BB3,List.map_nil,List.take_zero,BB4]; try rfl⟩
 ·rintro m st ⟨i,hi,rfl,rfl⟩
  by_cases e : i < l.length
  ·have e1 : (i : Int) < l.length:=by omega
   have e2 : (0 : Int)≤i:=by omega
   have wi : IntKind.i64.wrap ((i : Int) + 1) = ((i + 1 : Nat) : Int):=by rw [wrap_i64 (by omega) (by omega)]; omega
   have hx:=wrD_get e
   obtain ⟨k,hk,hke⟩:=hh l[i] (List.getElem_mem e)
   have hkl : (1 : Int) < (l[i].key.length : Int):=by
    rw [hke]
    have:=List.length_pos_iff.2 hk
    simp [keyS]; omega
   have hk0 : l[i].key = 97 :: k:=hke
   have htk : rowsR 97 (l.take (i + 1)) = rowsR 97 (l.take i) ++ [⟨k,l[i].del,l[i].val⟩]:=by
    unfold rowsR
    rw [List.take_succ_eq_append_getElem e,List.filterMap_append]
    congr 1
    rw [List.filterMap_cons,strip_home hk hke]; rfl
   have hrl:=rowsR_len (l.take i)
   rw [List.length_take] at hrl
   simp only [BB0,BB1,Nat.reduceLT,movK,Nat.reduceBEq,BB3,dropLk,Nat.reduceEqDiff,if_false,dl33,List.length_map,Pos.atSlot,BQ,BB4,e1,cd_t,ix33,e2,hx,fv32_0,la9,dl9,constDV,hkl,gs2_tt,ix9,Int.reduceLE,Int.reduceToNat,if_true]
   have h97 : ((List.getD l[i].key 0 0).toNat : Int) = 97:=by rw [hk0]; rfl
   have hk1 : (1 : Int)≤(l[i].key.length : Int):=by omega
   have hdr : List.drop 1 (List.take l[i].key.length l[i].key) = k:=by rw [List.take_length,hk0]; rfl
   refine ⟨by omega,?_⟩
   simp only [h97,decide_true,cd_t,BB1]
   refine w_draw [0,6,17,18,19,20] (.quiet 1 (.quiet 2 (.quiet 3 (.quiet 4 (.quiet 5 (.quiet 7 (.quiet 8 (.quiet 9 (.quiet 10 (.quiet 11 (.quiet 12 (.quiet 13 (.quiet 14 (.quiet 15 (.quiet 16 (.acts [(0,[16,15,14,13,12,11,10,9,8,7,5,4,3,2,1],.acts [(6,[16,15,14,13,12,11,10,9,8,7],.acts [(17,[],.acts [(18,[],.acts [(19,[],.acts [(20,[],.done)])])])])]),(6,[16,15,14,13,12,11,10,9,8,7],.acts [(0,[16,15,14,13,12,11,10,9,8,7,5,4,3,2,1],.acts [(17,[],.acts [(18,[],.acts [(19,[],.acts [(20,[],.done)])])])]),(17,[],.acts [(0,[16,15,14,13,12,11,10,9,8,7,5,4,3,2,1],.acts [(18,[],.acts [(19,[],.acts [(20,[],.done)])])]),(18,[],.acts [(0,[16,15,14,13,12,11,10,9,8,7,5,4,3,2,1],.acts [(19,[],.acts [(20,[],.done)])])])])])])))))))))))))))) (by decide) (by kernel_rfl) ?_
   simp only [BB0,BB5,BB1,Nat.reduceLT,Nat.reduceBEq,BB3,dropLk,ix33,e2,List.length_map,e1,BQ,hx,fv32_0,la9,fv32_1,la4,fv32_2,movK,Nat.reduceEqDiff,if_false,and_self,dropLks,Pos.atSlot,constDV,sc9,dbound,Int.reduceLE,hk1,Int.reduceToNat,hdr,bd32,bd32_0,takK,BB6,Nat.reduceAdd,Nat.reduceLeDiff,BB4,bd32_1,bd32_2,bs33_1,isO_eq,List.map_cons,List.map_nil,apo33_33,lkGet,if_true,ap33_33,wi]
   refine ⟨by omega,by omega,l.length - (i + 1),by omega,i + 1,by omega,rfl,?_⟩
   rw [htk,List.map_append]; rfl
  ·obtain rfl : i = l.length:=by omega
   have e1 : ¬ (l.length : Int) < l.length:=by omega
   simp only [List.take_length,BB0,BB1,Nat.reduceLT,movK,Nat.reduceBEq,BB3,dropLk,Nat.reduceEqDiff,if_false,dl33,List.length_map,Pos.atSlot,BQ,BB4,e1,cd_f,takK,lkGet,if_true,BB6]
   exact hK
end Go.Ab.En
namespace Go.Ab.En
open Go Go.Conc Go.RowKit Go.Ab
set_option maxRecDepth 10000
def lastR (L : List (List Wr)) (k : Str) : Nat→Option Wr
 | 0 => none
 | n + 1 => match ((L[n]?).getD []).find? (fun w => decide (w.key = k)) with
  | some w => some w
  | none => lastR L k n
theorem last_iff {L : List (List Wr)} (hn : ∀ b∈L,(b.map (·.key)).Nodup) {k : Str} : ∀ {n : Nat} {w : Wr},n≤L.length→(lastR L k n = some w ↔ w∈mapR L n∧w.key = k)
 | 0,w,_ => by simp [lastR,mapR]
 | n + 1,w,hl => by
  have hb : L[n]? = some L[n]:=List.getElem?_eq_getElem (by omega)
  have ih:=last_iff hn (k:=k) (n:=n) (w:=w) (by omega)
  have hnb:=hn L[n] (List.getElem_mem _)
  obtain ⟨_,f2⟩:=fold_asc (b:=L[n]) (map_mem hn n).1 hnb
  rw [mapR_succ,hb,lastR,hb]
  simp only [Option.getD_some]
  rw [f2]
  generalize L[n] = b at *
  cases hf : b.find? (fun w => decide (w.key = k)) with
  | none =>
   have h0 : ∀ y∈b,y.key ≠ k:=fun y hy => by simpa using List.find?_eq_none.1 hf y hy
   simp only
   rw [ih]
   constructor
   ·rintro ⟨h1,rfl⟩; exact ⟨.inr ⟨h1,h0⟩,rfl⟩
   ·rintro ⟨h1 | ⟨h1,_⟩,h2⟩
    ·exact absurd h2 (h0 w h1)
    ·exact ⟨h1,h2⟩
  | some w0 =>
   have h1 : w0∈b:=List.mem_of_find?_eq_some hf
   have h2 : w0.key = k:=by simpa using List.find?_some hf
   simp only [Option.some.injEq]
   constructor
   ·rintro rfl; exact ⟨.inl h1,h2⟩
   ·rintro ⟨h3 | ⟨_,h3⟩,h4⟩
    ·obtain ⟨i,hi,rfl⟩:=List.getElem_of_mem h1
     obtain ⟨j,hj,rfl⟩:=List.getElem_of_mem h3
     have:=key_inj hnb hi hj (h2.trans h4.symm)
     subst this; rfl
    ·exact absurd (h2.trans h4.symm) (h3 w0 h1)
def getD2 : Option Wr→DV
 | some w => .tup [.str w.val,.bool (!w.del)]
 | none => .tup [.str [],.bool false]
noncomputable def b117 : Code:=(Go.Proofs.Tryz.f117.body).getD .skip
theorem hb117 : Go.Proofs.Tryz.f117.body = some b117:=by kernel_rfl
def SGetR : Spec:=fun H args K => ∃ (s : Nat) (L : List (List Wr)) (k : Str),args = [.ptr s 0,.str k,.int .i64 L.length]∧RefAt H s L∧L.length < 1000∧(∀ b∈L,b.length≤8)∧K H (getD2 (lastR L k L.length))
def MGet1 (H : List HObj) (s : Nat) (L : List (List Wr)) (k : Str) (m : Nat) (st : St) : Prop:=∃ (j : Nat),j≤L.length∧m = j∧lastR L k L.length = lastR L k j ∧
 st = mk 70 [(0,.ptr s 0),(1,.str k),(8,.int .i64 ((j : Int) - 1))] [] H []
def MGet2 (H : List HObj) (s j : Nat) (k : Str) (b : List Wr) (m : Nat) (st : St) : Prop:=∃ (q : Nat),q≤b.length∧m = b.length - q∧b.find? (fun w => decide (w.key = k)) = (b.drop q).find? (fun w => decide (w.key = k)) ∧
 st = mk 70 [(0,.ptr s 0),(1,.str k),(8,.int .i64 j),(9,.int .i64 q)] [] H []
set_option maxHeartbeats 4000000 in
theorem rcGetR {I : Jd pp} (hI : ∀ w e,I.Ok w e) : RC I 117 SGetR:=by
 refine rc_of_code (isObj:=noO) (Γ:=envOf []) (rs:=[6,7]) mixed hI (envOf_rc (by simp)) Go.Proofs.Tryz.func117 (by kernel_rfl) hb117 Go.Proofs.Tryz.results117 Go.Proofs.Tryz.ntmps117 (by decide) ?_
 rintro H args K ⟨s,L,k,rfl,h1,hL,hb,hK⟩
 refine ⟨by simp,rfl,?_⟩
 unfold b117 Go.Proofs.Tryz.f117
 unfold RefAt at h1
 have w1 : IntKind.i64.wrap ((L.length : Int) - 1) = (L.length : Int) - 1:=wrap_i64 (by omega) (by omega)
 simp only [BQ,Option.getD_some,argSlots,BB2,BB1,Nat.reduceAdd,BB0,constDV,dropLk,Nat.reduceLT,movK,Nat.reduceBEq,BB3,dnil,fp59_0,h1,la57,addrPos,ia57,if_false,dl57,List.length_map,Pos.atSlot,BB4,Int.lt_irrefl,w1,takK]
 refine w_loop [0,1,8] (MGet1 H s L k) L.length ?_ ?_
 ·exact ⟨L.length,by omega,rfl,rfl,by simp only [BB1,List.map_cons,Nat.reduceBEq,BB3,List.map_nil]; try rfl⟩
 ·rintro m st ⟨j,hj,rfl,hl,rfl⟩
  cases m with
  | zero =>
   have e1 : ¬ (0 : Int)≤((0 : Nat) : Int) - 1:=by omega
   simp only [BB4,Int.reduceSub,Int.reduceNeg,BB0,BB1,Nat.reduceLT,movK,Nat.reduceBEq,BB3,dropLk,BQ,constDV,Int.reduceLE,cd_f,BB6,and_self,if_true,if_false]
   rw [hl] at hK
   exact hK
  | succ j =>
   have ej : ((j + 1 : Nat) : Int) - 1 = (j : Int):=by omega
   have e1 : (0 : Int)≤(j : Int):=by omega
   have e2 : (j : Int) < L.length:=by omega
   have e3 : j < L.length:=by omega
   have hx:=bD_get e3
   have wj : IntKind.i64.wrap ((j : Int) - 1) = (j : Int) - 1:=wrap_i64 (by omega) (by omega)
   rw [lastR,List.getElem?_eq_getElem e3,Option.getD_some] at hl
   have hb8:=hb _ (List.getElem_mem e3)
   generalize L[j] = b at *
   rw [ej]
   simp only [BB0,BB1,Nat.reduceLT,movK,Nat.reduceBEq,BB3,dropLk,BB4,BQ,constDV,e1,cd_t,if_false]
   refine w_loop [0,1,8,9] (MGet2 H s j k b) b.length ?_ ?_
   ·exact ⟨0,by omega,by omega,by simp,by simp only [BB1,List.map_cons,Nat.reduceBEq,BB3,List.map_nil,BB4]; try rfl⟩
   ·rintro m st ⟨q,hq,rfl,hf,rfl⟩
    by_cases e : q < b.length
    ·have q1 : (q : Int) < b.length:=by omega
     have q2 : (0 : Int)≤q:=by omega
     have wq : IntKind.i64.wrap ((q : Int) + 1) = ((q + 1 : Nat) : Int):=by rw [wrap_i64 (by omega) (by omega)]; omega
     have hy:=wrD_get e
     rw [List.drop_eq_getElem_cons e,List.find?_cons] at hf
     by_cases hk : b[q].key = k
     ·rw [decide_eq_true hk] at hf
      simp only at hf
      rw [hf] at hl
      simp only at hl
      simp only [BB0,BB1,Nat.reduceLT,movK,Nat.reduceBEq,BB3,dropLk,BB2,dnil,fp59_0,BQ,h1,la57,addrPos,ia57,if_false,Pos.atSlot,ix57,e1,List.length_map,e2,hx,la33,dl33,BB4,q1,cd_t,ix33,q2,hy,hk,fv32_0,la9]
      refine w_draw [23,24] (.quiet 0 (.quiet 1 (.quiet 2 (.quiet 3 (.quiet 4 (.quiet 5 (.quiet 6 (.quiet 7 (.quiet 8 (.quiet 9 (.quiet 10 (.quiet 11 (.quiet 12 (.quiet 13 (.quiet 14 (.quiet 15 (.quiet 16 (.quiet 17 (.quiet 18 (.quiet 19 (.quiet 20 (.quiet 21 (.quiet 22 (.acts [(23,[22,21,20,19,18,17,16,15,14,13,12,11],.acts [(24,[],.done)])])))))))))))))))))))))))) (by decide) (by kernel_rfl) ?_
      simp only [BB0,BB5,BB1,Nat.reduceLT,Nat.reduceBEq,BB3,BB2,dropLk,dnil,fp59_0,BQ,h1,la57,ix57,e1,List.length_map,e2,hx,la33,ix33,q2,q1,hy,hk,fv32_2,la9,fv32_1,la4,BB4,takK,and_self,dropLks,BB6]
      rw [hl] at hK
      exact hK
     ·rw [decide_eq_false hk] at hf
      simp only at hf
      simp only [BB0,BB1,Nat.reduceLT,movK,Nat.reduceBEq,BB3,dropLk,BB2,dnil,fp59_0,BQ,h1,la57,addrPos,ia57,if_false,Pos.atSlot,ix57,e1,List.length_map,e2,hx,la33,dl33,BB4,q1,cd_t,ix33,q2,hy,fv32_0,la9,hk,cd_f,constDV,wq,takK,List.map_cons,List.map_nil]
      exact ⟨b.length - (q + 1),by omega,q + 1,by omega,rfl,hf,rfl⟩
    ·obtain rfl : q = b.length:=by omega
     have q1 : ¬ (b.length : Int) < b.length:=by omega
     rw [List.drop_length] at hf
     rw [hf] at hl
     simp only [List.find?_nil] at hl
     simp only [BB0,BB1,Nat.reduceLT,movK,Nat.reduceBEq,BB3,dropLk,BB2,dnil,fp59_0,BQ,h1,la57,addrPos,ia57,if_false,Pos.atSlot,ix57,e1,List.length_map,e2,hx,la33,dl33,BB4,q1,cd_f,constDV,wj,takK,List.map_cons,List.map_nil,Nat.reduceEqDiff,reduceCtorEq,BB6,and_self,if_true]
     exact ⟨j,by omega,j,by omega,rfl,hl,rfl⟩
def nowG (L : List (List Wr)) (k : Str) : List Pr:=match lastR L (keyS 97 k) L.length with
 | some w => if w.del then [] else [⟨k,w.val⟩]
 | none => []
noncomputable def b95 : Code:=(Go.Proofs.Tryz.f95.body).getD .skip
theorem hb95 : Go.Proofs.Tryz.f95.body = some b95:=by kernel_rfl
def SgetR : Spec:=fun H args K => ∃ (r s : Nat) (rs : List Rd) (L : List (List Wr)) (k : Str),args = [.ptr r 0,.int .u8 97,.str k,.int .i64 L.length]∧RDealAt H r s rs∧RefAt H s L∧L.length < 1000∧(∀ b∈L,b.length≤8)∧k.length < 4000000000000000000∧K H (.sl true 2 ((nowG L k).map prD))
set_option maxHeartbeats 4000000 in
theorem rcgetR {I : Jd pp} (hI : ∀ w e,I.Ok w e) : RC I 95 SgetR:=by
 refine rc_of_code (isObj:=noO) (Γ:=envOf [(98,SKey),(117,SGetR)]) (rs:=[8]) mixed hI (envOf_rc (by simpa using ⟨rcKeyR hI,rcGetR hI⟩)) Go.Proofs.Tryz.func95 (by kernel_rfl) hb95 Go.Proofs.Tryz.results95 Go.Proofs.Tryz.ntmps95 (by decide) ?_
 rintro H args K ⟨r,s,rs,L,k,rfl,⟨q1,q2,q3,q4,q5,h0⟩,h1,hL,hb,hk,hK⟩
 refine ⟨by simp,rfl,?_⟩
 unfold b95 Go.Proofs.Tryz.f95
 simp only [Option.getD_some,argSlots,BB2,Nat.zero_add,BB1,Nat.reduceAdd,BB0,constDV,Proofs.Tryz.underlying64,cn96,dropLk]
 refine w_draw [6,8,12,13] (.quiet 0 (.quiet 1 (.quiet 2 (.quiet 3 (.quiet 4 (.quiet 5 (.quiet 7 (.acts [(6,[7,3,2,1,0],.acts [(8,[],.quiet 9 (.quiet 10 (.quiet 11 (.acts [(12,[11],.acts [(13,[],.done)])]))))])])))))))) (by decide) (by kernel_rfl) ?_
 simp only [BB0,BB5,BB1,Nat.reduceLT,Nat.reduceBEq,BB3,BB2,dropLk,dnil,fp73_0,BQ,h0,la56,BB4,Nat.reduceEqDiff,if_false,if_true,List.map_cons,List.map_nil]
 refine ⟨97,k,rfl,hk,?_⟩
 simp only [BB1,BB5,Pos.isHp,BQ,dropLk,BB0,Nat.reduceLT,Nat.reduceBEq,BB3,h0,la56,BB2,fp73_0,dnil,and_self,dropLks,BB4,Nat.reduceEqDiff,if_true,if_false,List.map_cons,List.map_nil]
 refine ⟨s,L,keyS 97 k,rfl,h1,hL,hb,?_⟩
 unfold nowG at hK
 cases hlr : lastR L (keyS 97 k) L.length with
 | none =>
  rw [hlr] at hK
  simp only [getD2,BB1,BB5,Pos.isHp,BQ,dropLk,dropLks,BB0,Nat.reduceLT,BB3,BB2,List.map_cons,List.map_nil,Nat.reduceBEq,takK,and_self,movK,BB4,cd_t,constDV,Proofs.Tryz.underlying64,cn96,BB6]
  exact hK
 | some w =>
  rw [hlr] at hK
  cases hd : w.del
  ·simp only [hd,Bool.false_eq_true,if_false] at hK
   simp only [getD2,hd,BQ,BB1,BB5,Pos.isHp,dropLk,dropLks,BB0,Nat.reduceLT,BB3,BB2,List.map_cons,List.map_nil,Nat.reduceBEq,takK,and_self,movK,BB4,cd_f,bd96,bd96_0,BB6,Nat.reduceAdd,Nat.reduceLeDiff,bd96_1,bs64_1,isO_eq]
   exact hK
  ·simp only [hd,if_true] at hK
   simp only [getD2,hd,BQ,BB1,BB5,Pos.isHp,dropLk,dropLks,BB0,Nat.reduceLT,BB3,BB2,List.map_cons,List.map_nil,Nat.reduceBEq,takK,and_self,movK,BB4,cd_t,constDV,Proofs.Tryz.underlying64,cn96,BB6]
   exact hK
theorem rdD_getR {l : List Rd} {i : Nat} (h : i < l.length) : (l.map rdD).getD i .undef = .agg [.int .i64 (l[i]).level,.bool (l[i]).scan,.str (l[i]).frm,.str (l[i]).til,.sl false 2 ((l[i]).prs.map prD)]:=by simp [List.getD,h,rdD]
def nowR (L : List (List Wr)) (r : Rd) : List Pr:=if r.scan then pairsR (rowsR 97 (mapR L L.length)) r.frm r.til 64 else nowG L r.frm
noncomputable def b39 : Code:=(Go.Proofs.Tryz.f39.body).getD .skip
theorem hb39 : Go.Proofs.Tryz.f39.body = some b39:=by kernel_rfl
def SReadyR : Spec:=fun H args K => ∃ (r s : Nat) (rs : List Rd) (L : List (List Wr)) (n h : Int) (w : DV) (o5 : Bool),args = [.ptr r 0]∧H[r]? = some (.cells [.ptr s 0,.int .i64 n,.int .u8 h,.sl o5 5 (rs.map rdD),w,.bool false])∧RefAt H s L∧L.length < 1000∧(∀ b∈L,b.length≤8)∧(∀ w∈mapR L L.length,∃ k,k ≠ []∧w.key = keyS 97 k)∧rs.length < 100000 ∧
 (∀ x∈rs,x.level = 97∧x.frm.length < 4000000000000000000∧x.prs.length < 100000∧nowR L x = x.prs)∧K H (.int .i64 0)
def MReadyR (H : List HObj) (r : Nat) (rs : List Rd) (m : Nat) (st : St) : Prop:=∃ (i : Nat) (B : List (Nat × Nat × List DV)),i≤rs.length∧m = rs.length - i∧(B = []∨∃ g c,B = [(4,g,c)]) ∧
 st = mk 66 [(0,.ptr r 0),(3,.int .i64 i)] B H []
set_option maxHeartbeats 4000000 in
theorem rcReadyR {I : Jd pp} (hI : ∀ w e,I.Ok w e) : RC I 39 SReadyR:=by
 refine rc_of_code (isObj:=noO) (Γ:=envOf [(95,SgetR),(97,SRowsR),(96,SPairsR),(43,SSameR)]) (rs:=[2]) mixed hI (envOf_rc (by simpa using ⟨rcgetR hI,rcRowsR hI,rcPairsR hI,rcSameR hI⟩)) Go.Proofs.Tryz.func39 (by kernel_rfl) hb39 Go.Proofs.Tryz.results39 Go.Proofs.Tryz.ntmps39 (by decide) ?_
 rintro H args K ⟨r,s,rs,L,n,h,w,o5,rfl,h0,h1,hL,hb,hh,hl,hr,hK⟩
 have hRD : RDealAt H r s rs:=⟨n,h,false,w,o5,h0⟩
 have h1':=h1
 unfold RefAt at h1'
 refine ⟨by simp,rfl,?_⟩
 unfold b39 Go.Proofs.Tryz.f39
 simp only [BQ,Option.getD_some,argSlots,BB2,BB0,BB1,constDV,dropLk,Nat.reduceLT,movK,Nat.reduceBEq,BB3,dnil,fp73_5,h0,la4,cd_f]
 refine w_loop [0,3] (MReadyR H r rs) rs.length ?_ ?_
 ·exact ⟨0,[],by omega,by omega,.inl rfl,by simp only [BB1,List.map_cons,Nat.reduceBEq,BB3,List.map_nil,BB4]; try rfl⟩
 ·rintro m st ⟨i,B,hi,rfl,hB,rfl⟩
  obtain ⟨g,hb1,hb2⟩:=box1 hB
  by_cases e : i < rs.length
  ·have e1 : (i : Int) < rs.length:=by omega
   have e2 : (0 : Int)≤i:=by omega
   have wi : IntKind.i64.wrap ((i : Int) + 1) = ((i + 1 : Nat) : Int):=by rw [wrap_i64 (by omega) (by omega)]; omega
   have hx:=rdD_getR e
   obtain ⟨a1,a2,a3,a4⟩:=hr _ (List.getElem_mem e)
   generalize rs[i] = x at *
   have w97 : IntKind.u8.wrap x.level = 97:=by rw [a1]; rfl
   simp only [BB0,BB1,Nat.reduceLT,movK,Nat.reduceBEq,BB3,dropLk,BB2,dnil,fp73_3,BQ,h0,la67,addrPos,ia67,if_false,dl67,List.length_map,Pos.atSlot,BB4,e1,cd_t,ix67,e2,hx,la148,Nat.reduceAdd,Nat.reduceLeDiff,List.map_cons,List.map_nil,al148,isO_eq,BB7,hb1,hb2,takK,if_true,Proofs.Tryz.underlying148,cn148,Pos.inBox]
   refine w_draw [14,15] (.quiet 0 (.quiet 1 (.quiet 2 (.quiet 3 (.quiet 4 (.quiet 5 (.quiet 6 (.quiet 7 (.quiet 8 (.quiet 9 (.quiet 10 (.quiet 11 (.quiet 12 (.quiet 13 (.acts [(14,[],.acts [(15,[],.done)])]))))))))))))))) (by decide) (by kernel_rfl) ?_
   simp only [BB0,BB5,BB1,Nat.reduceLT,Nat.reduceBEq,BB3,BB2,dropLk,fl148_0,BQ,if_true,la3,cv3_5,w97,fl148_2,la9,dnil,fp73_0,h0,la56,fp59_0,h1',la57,dl57,List.length_map,BB4,Nat.reduceEqDiff,if_false,List.map_cons,List.map_nil]
   refine ⟨r,s,rs,L,x.frm,rfl,hRD,h1,hL,hb,a2,?_⟩
   have fin : ∀ cs : List DV,∃ m',m' < rs.length - i∧MReadyR H r rs m' (mk 66 [(0,.ptr r 0),(3,.int .i64 ((i + 1 : Nat) : Int))] [(4,g,cs)] H []):=fun cs => ⟨rs.length - (i + 1),by omega,i + 1,_,by omega,rfl,.inr ⟨_,_,rfl⟩,rfl⟩
   have hdec : decide (nowR L x = x.prs) = true:=decide_eq_true a4
   unfold nowR at hdec
   cases hs : x.scan
   ·rw [hs] at hdec
    simp only [Bool.false_eq_true,if_false] at hdec
    have hgl : (nowG L x.frm).length≤1:=by
     unfold nowG
     split
     ·split <;> simp
     ·simp
    simp only [BB1,BB5,Pos.isHp,BQ,dropLk,dropLks,BB0,Nat.reduceLT,takK,BB3,Nat.reduceBEq,fl148_1,if_true,la4,cd_f,movK,Nat.reduceEqDiff,if_false,fl148_4,Pos.atSlot,la64,addrPos,ia64,BB4,List.map_cons,List.map_nil]
    refine ⟨_,_,_,_,rfl,by omega,a3,?_⟩
    rw [hdec]
    simp only [BB1,BB5,Pos.isHp,BQ,if_true,dropLk,Nat.reduceBEq,Pos.atSlot,if_false,BB0,Nat.reduceLT,BB3,BB4,cd_f,movK,constDV,wi,takK,List.map_cons,List.map_nil]
    exact fin _
   ·rw [hs] at hdec
    simp only [if_true] at hdec
    simp only [BB1,BB5,Pos.isHp,BQ,dropLk,dropLks,BB0,Nat.reduceLT,takK,BB3,Nat.reduceBEq,fl148_1,if_true,la4,cd_t]
    refine w_draw [12,17,18] (.quiet 0 (.quiet 1 (.quiet 2 (.quiet 3 (.quiet 4 (.quiet 5 (.quiet 6 (.quiet 7 (.quiet 8 (.quiet 9 (.quiet 10 (.quiet 11 (.quiet 13 (.quiet 14 (.quiet 15 (.quiet 16 (.acts [(12,[16,15,14,13],.acts [(17,[],.acts [(18,[],.done)])])]))))))))))))))))) (by decide) (by kernel_rfl) ?_
    simp only [BB0,BB5,BB1,Nat.reduceLT,Nat.reduceBEq,BB3,BB2,dropLk,fl148_0,BQ,if_true,la3,cv3_5,w97,dnil,fp73_0,h0,la56,fp59_0,h1',la57,dl57,List.length_map,fl148_2,la9,fl148_3,BB4,Nat.reduceEqDiff,if_false,List.map_cons,List.map_nil]
    refine ⟨r,s,L.length,rs,L,rfl,hRD,h1,hL,hb,hL,hh,?_⟩
    simp only [BB1,BB5,Pos.isHp,BQ,dropLk,BB0,Nat.reduceLT,Nat.reduceBEq,BB3,if_true,la9,and_self,fl148_3,fl148_2,dropLks,BB4,constDV,Nat.reduceEqDiff,if_false,List.map_cons,List.map_nil]
    refine ⟨_,_,x.frm,x.til,rfl,by have:=rowsR_len (mapR L L.length); have:=mapR_len hb L.length; omega,?_⟩
    simp only [BB1,BB5,Pos.isHp,BQ,dropLk,dropLks,BB0,Nat.reduceLT,takK,BB3,movK,Nat.reduceEqDiff,if_false,Nat.reduceBEq,fl148_4,Pos.atSlot,if_true,la64,addrPos,ia64,BB4,List.map_cons,List.map_nil]
    refine ⟨_,_,_,_,rfl,by unfold pairsR; rw [List.length_take]; omega,a3,?_⟩
    rw [hdec]
    simp only [BB1,BB5,Pos.isHp,BQ,if_true,dropLk,Nat.reduceBEq,Pos.atSlot,if_false,BB0,Nat.reduceLT,BB3,BB4,cd_f,movK,constDV,wi,takK,List.map_cons,List.map_nil]
    exact fin _
  ·obtain rfl : i = rs.length:=by omega
   have e1 : ¬ (rs.length : Int) < rs.length:=by omega
   simp only [BB0,BB1,Nat.reduceLT,movK,Nat.reduceBEq,BB3,dropLk,BB2,dnil,fp73_3,BQ,h0,la67,addrPos,ia67,if_false,dl67,List.length_map,Pos.atSlot,BB4,e1,cd_f,constDV,BB6,if_true]
   exact hK
end Go.Ab.En
namespace Go.Ab.En
open Go Go.Conc Go.RowKit Go.Ab
set_option maxRecDepth 10000
structure Stp where
 what : Int
 who : Int
 space : Int
 key : Str
 til : Str
def stpD (s : Stp) : DV:=.agg [.int .i64 s.what,.int .i64 s.who,.int .u8 s.space,.str s.key,.str s.til]
theorem stpD_get {l : List Stp} {i : Nat} (h : i < l.length) : (l.map stpD).getD i .undef = .agg [.int .i64 (l[i]).what,.int .i64 (l[i]).who,.int .u8 (l[i]).space,.str (l[i]).key,.str (l[i]).til]:=by simp [List.getD,h,stpD]
def stpOk (s : Stp) : Bool:=decide ((s.key.length : Int)≤30) && decide ((s.til.length : Int)≤40)
def fewB (l : List Stp) : Bool:=l.all stpOk && decide ((l.length : Int)≤50)
noncomputable def b33 : Code:=(Go.Proofs.Tryz.f33.body).getD .skip
theorem hb33 : Go.Proofs.Tryz.f33.body = some b33:=by kernel_rfl
def SFew : Spec:=fun H args K => ∃ (o : Bool) (l : List Stp),args = [.sl o 5 (l.map stpD)]∧l.length≤9223372036854775807∧K H (.bool (fewB l))
def MFew (H : List HObj) (l : List Stp) (m : Nat) (st : St) : Prop:=∃ (i : Nat),i≤l.length∧m = l.length - i∧(l.take i).all stpOk = true ∧
 st = mk 29 [(0,.sl false 5 (l.map stpD)),(3,.int .i64 i)] [] H []
set_option maxHeartbeats 4000000 in
theorem rcFew {I : Jd pp} (hI : ∀ w e,I.Ok w e) : RC I 33 SFew:=by
 refine rc_of_code (isObj:=noO) (Γ:=envOf []) (rs:=[2]) mixed hI (envOf_rc (by simp)) Go.Proofs.Tryz.func33 (by kernel_rfl) hb33 Go.Proofs.Tryz.results33 Go.Proofs.Tryz.ntmps33 (by decide) ?_
 rintro H args K ⟨o,l,rfl,hl,hK⟩
 refine ⟨by simp,rfl,?_⟩
 unfold b33 Go.Proofs.Tryz.f33
 simp only [Option.getD_some,argSlots,BB1,BB0,constDV,dropLk]
 refine w_loop [0,3] (MFew H l) l.length ?_ ?_
 ·exact ⟨0,by omega,by omega,by simp,by simp only [BB1,List.map_cons,Nat.reduceBEq,BB3,List.map_nil,BB4]; try rfl⟩
 ·rintro m st ⟨i,hi,rfl,ha,rfl⟩
  by_cases e : i < l.length
  ·have e1 : (i : Int) < l.length:=by omega
   have e2 : (0 : Int)≤i:=by omega
   have wi : IntKind.i64.wrap ((i : Int) + 1) = ((i + 1 : Nat) : Int):=by rw [wrap_i64 (by omega) (by omega)]; omega
   have hx:=stpD_get e
   have hno : stpOk l[i] = false→fewB l = false:=fun h => by
    unfold fewB
    rw [Bool.and_eq_false_iff]
    left
    rw [Bool.eq_false_iff,ne_eq,List.all_eq_true]
    intro hall
    rw [hall _ (List.getElem_mem e)] at h; cases h
   by_cases h1 : (30 : Int) < (l[i].key.length : Int)
   ·have hb:=hno (by simp [stpOk]; intro h; omega)
    rw [hb] at hK
    simp only [BB0,BB1,Nat.reduceLT,movK,Nat.reduceBEq,BB3,dropLk,lkGet,dl54,List.length_map,BB4,BQ,e1,cd_t,ix54,e2,hx,fv62_3,la9,dl9,constDV,h1,gs2_tf,BB2,List.map_nil,if_true,BB6,if_false]
    exact hK
   ·by_cases h2 : (40 : Int) < (l[i].til.length : Int)
    ·have hb:=hno (by simp [stpOk]; intro h; omega)
     rw [hb] at hK
     simp only [BB0,BB1,Nat.reduceLT,movK,Nat.reduceBEq,BB3,dropLk,lkGet,dl54,List.length_map,BB4,BQ,e1,cd_t,ix54,e2,hx,fv62_3,la9,dl9,constDV,h1,gs2_ff,fv62_4,h2,if_false,BB6]
     exact hK
    ·simp only [BB0,BB1,Nat.reduceLT,movK,Nat.reduceBEq,BB3,dropLk,lkGet,dl54,List.length_map,BB4,BQ,e1,cd_t,ix54,e2,hx,fv62_3,la9,dl9,constDV,h1,gs2_ff,fv62_4,h2,if_false,cd_f,wi,takK,List.map_cons,List.map_nil]
     refine ⟨l.length - (i + 1),by omega,i + 1,by omega,rfl,?_,rfl⟩
     rw [List.take_succ_eq_append_getElem e,List.all_append,ha]
     simp [stpOk]; omega
  ·obtain rfl : i = l.length:=by omega
   have e1 : ¬ (l.length : Int) < l.length:=by omega
   rw [List.take_length] at ha
   simp only [BB0,BB1,Nat.reduceLT,movK,Nat.reduceBEq,BB3,dropLk,lkGet,dl54,List.length_map,BB4,BQ,e1,cd_f,constDV,takK,BB6,if_false,if_true]
   simpa [fewB,ha] using hK
theorem few_iff {l : List Stp} (h : fewB l = true) : l.length≤50∧∀ s∈l,s.key.length≤30∧s.til.length≤40:=by
 rw [fewB,Bool.and_eq_true,decide_eq_true_eq,List.all_eq_true] at h
 refine ⟨by omega,fun s hs => ?_⟩
 have:=h.1 s hs
 rw [stpOk,Bool.and_eq_true,decide_eq_true_eq,decide_eq_true_eq] at this
 omega
def HdOk (i : Int) (hd : Hd) : Prop:=∀ p∈hd,0≤p.2∧p.2≤i
theorem getI_mem {k v : Int} : ∀ {hd : Hd},getI hd k = some v→(k,v)∈hd
 | [],h => by cases h
 | (x,u) :: r,h => by
  unfold getI at h
  split at h
  ·rename_i e; cases h; subst e; simp
  ·exact List.mem_cons_of_mem _ (getI_mem h)
theorem HdOk.cnt {i : Int} {hd : Hd} (h : HdOk i hd) (hi : 0≤i) (n : Int) : 0≤cntI hd n∧cntI hd n≤i:=by
 unfold cntI
 cases hg : getI hd n with
 | none => exact ⟨Int.le_refl _,hi⟩
 | some v => exact h _ (getI_mem hg)
theorem setI_mem {k v : Int} : ∀ {hd : Hd} {p : Int × Int},p∈setI k v hd→p = (k,v)∨p∈hd
 | [],p,h => by simpa [setI] using h
 | (x,u) :: r,p,h => by
  unfold setI at h
  split at h
  ·rcases List.mem_cons.1 h with h | h
   ·exact .inl h
   ·exact .inr (List.mem_cons_of_mem _ h)
  ·rcases List.mem_cons.1 h with h | h
   ·exact .inr (by rw [h]; simp)
   ·rcases setI_mem h with h | h
    ·exact .inl h
    ·exact .inr (List.mem_cons_of_mem _ h)
theorem delI_mem {k v : Int} : ∀ {hd : Hd} {p : Int × Int},p∈delI k (setI k v hd)→p∈hd
 | [],p,h => by simp [setI,delI] at h
 | (x,u) :: r,p,h => by
  unfold setI at h
  split at h
  ·simp [delI] at h
   exact List.mem_cons_of_mem _ h
  ·rename_i e
   rw [delI,if_neg e] at h
   rcases List.mem_cons.1 h with h | h
   ·rw [h]; simp
   ·exact List.mem_cons_of_mem _ (delI_mem h)
theorem HdOk.hold {i : Int} {hd : Hd} (h : HdOk i hd) (hi : 0≤i) (n : Int) : HdOk (i + 1) (holdH hd n):=fun p hp => by
 rcases setI_mem hp with rfl | hp
 ·have:=h.cnt hi n
  simp only; omega
 ·have:=h p hp; omega
theorem HdOk.mono {i j : Int} {hd : Hd} (h : HdOk i hd) (hij : i≤j) : HdOk j hd:=fun p hp => by have:=h p hp; omega
theorem HdOk.free {i : Int} {hd : Hd} (h : HdOk i hd) (hi : 0≤i) (n : Int) : HdOk i (freeH hd n):=fun p hp => by
 unfold freeH at hp
 split at hp
 ·exact h p (delI_mem hp)
 ·rcases setI_mem hp with rfl | hp
  ·have:=h.cnt hi n
   simp only; omega
  ·exact h p hp
end Go.Ab.En
namespace Go.Ab.En
open Go Go.Conc Go.RowKit Go.Ab
set_option maxRecDepth 10000
theorem cl64 {n id off len cap : Nat} {l : List (Nat × DV)} {B : List (Nat × Nat × List DV)} {H : List HObj} {lk : List (Nat × Pos)} {K : St→Prop} : clearD pp (mk n l B H lk) 64 (.hsl id 2 off len cap) K = clH [.str [],.str []] off len 2 id (mk n l B H lk) K (H[id]?) :=
 cl_h (e:=96) (by kernel_rfl) (by kernel_rfl) (by decide) (by kernel_rfl) (by kernel_rfl) (by kernel_rfl) (by kernel_rfl)
theorem flatP_set : ∀ (ps : List Pr) (i : Nat) (p : Pr),i < ps.length→flatP (ps.set i p) = (flatP ps).take (i * 2) ++ p.cells ++ (flatP ps).drop (i * 2 + 2)
 | [],i,p,h => by simp at h
 | x :: r,0,p,h => by simp [flatP,Pr.cells]
 | x :: r,i + 1,p,h => by
  have h1:=flatP_set r i p (by simpa using h)
  show flatP (x :: r.set i p) = _
  have e1 : ∀ l,flatP (x :: l) = .str x.key :: .str x.val :: flatP l:=fun l => rfl
  rw [e1,e1,h1,show (i + 1) * 2 = i * 2 + 1 + 1 by omega,show i * 2 + 1 + 1 + 2 = i * 2 + 2 + 1 + 1 by omega]
  rfl
theorem flatP_rep (n : Nat) : (List.replicate n [DV.str [],.str []]).flatten = flatP (List.replicate n ⟨[],[]⟩):=by
 induction n with
 | zero => rfl
 | succ n ih => rw [List.replicate_succ,List.flatten_cons,ih,List.replicate_succ]; rfl
theorem idxQ_lt {p : Pr→Bool} : ∀ {ps : List Pr} {i : Nat},idxQ p ps = some i→i < ps.length
 | [],_,h => by cases h
 | w :: r,i,h => by
  rw [idxQ] at h
  split at h
  ·cases h; simp
  ·obtain ⟨j,hj,rfl⟩:=Option.map_eq_some_iff.1 h
   have:=idxQ_lt hj
   simp; omega
def SDelG (f : Nat) (SF : Spec) : Spec:=fun H args K => ∃ (id cap : Nat) (ps : List Pr) (caps : List DV) (p : Pr→Bool),args = [.hsl id 2 0 ps.length cap,.fn f caps]∧HRowFP H id cap ps∧ps.length < 4611686018427387904∧caps.map DV.ro = caps ∧
 (∀ H',Fr [id] H H'→(ps = []→H' = H)→∀ w : Pr,∀ K' : List HObj→DV→Prop,K' H' (.bool (p w))→SF H' (.agg [.str w.key,.str w.val] :: caps) K')∧∀ H' (ps' : List Pr),Fr [id] H H'→(ps = []→H' = H)→ps'.length≤ps.length→HRowFP H' id cap ps'→K H' (.hsl id 2 0 ps'.length cap)
def MDel (H : List HObj) (id cap len f : Nat) (caps sp : List DV) (m : Nat) (st : St) : Prop:=∃ (i j : Nat) (ps' : List Pr) (H' : List HObj) (B : List (Nat × Nat × List DV)),i≤j∧j≤len∧m = len - j∧ps'.length = len∧Fr [id] H H'∧H'[id]? = some (.cells (flatP ps' ++ sp))∧(B = []∨∃ g c,B = [(7,g,c)]) ∧
 st = mk 42 [(0,.hsl id 2 0 len cap),(1,.fn f caps),(5,.int .i64 i),(6,.int .i64 j)] B H' []
set_option maxHeartbeats 4000000 in
theorem rcDelG {I : Jd pp} (hI : ∀ w e,I.Ok w e) {SF : Spec} {f : Nat} (hf : f ≠ 217) (hF : RC I f SF) : RC I 155 (SDelG f SF):=by
 refine rc_of_code (isObj:=isP) (Γ:=envOf [(217,SIdxQ f SF),(f,SF)]) (rs:=[4]) mixed hI (envOf_rc (by simpa using ⟨rcIdxQ hI hF,hF⟩)) Go.Proofs.Tryz.func155 (by kernel_rfl) hb155 Go.Proofs.Tryz.results155 Go.Proofs.Tryz.ntmps155 (by decide) ?_
 rintro H args K ⟨id,cap,ps,caps,p,rfl,hr,hl,hcap,hp,hK⟩
 refine ⟨by simp,rfl,?_⟩
 unfold b155 Go.Proofs.Tryz.f155
 simp only [Int.reduceNeg,Option.getD_some,argSlots,BB3,BQ,BB0,BB1,constDV,Proofs.Tryz.underlying64,cn96,dropLk,Nat.reduceLT,movK,Nat.reduceBEq,BB4,BB5,if_true,List.map_cons,List.map_nil]
 refine ⟨id,cap,ps,caps,p,rfl,hr,hl,hcap,fun w K' hK' => hp H (Fr.refl _ _) (fun _ => rfl) w K' hK',?_⟩
 cases hx : idxQ p ps with
 | none =>
  simp only [Int.reduceNeg,idxI,BB1,BB5,Pos.isHp,BQ,dropLk,BB0,Nat.reduceLT,takK,BB3,movK,BB4,constDV,cd_t,Nat.reduceBEq,BB6,if_false]
  exact hK H ps (Fr.refl _ _) (fun _ => rfl) (Nat.le_refl _) hr
 | some i0 =>
  have hi0:=idxQ_lt hx
  have e0 : ¬ ((i0 : Int) = -1):=by omega
  have w0 : IntKind.i64.wrap ((i0 : Int) + 1) = ((i0 + 1 : Nat) : Int):=by rw [wrap_i64 (by omega) (by omega)]; omega
  have hc : cap ≠ 0:=by have:=hr.1; omega
  obtain ⟨sp,k1,hsp⟩:=hr.2 hc
  simp only [Int.reduceNeg,idxI,BB1,BB5,Pos.isHp,BQ,dropLk,BB0,Nat.reduceLT,takK,BB3,movK,BB4,constDV,e0,cd_f,Nat.reduceBEq,w0,if_false]
  refine w_loop [0,1,5,6] (MDel H id cap ps.length f caps sp) (ps.length - (i0 + 1)) ?_ ?_
  ·exact ⟨i0,i0 + 1,ps,H,[],by omega,by omega,by omega,rfl,Fr.refl _ _,k1,.inl rfl,by simp only [BB1,List.map_cons,Nat.reduceBEq,BB3,List.map_nil]; try rfl⟩
  ·rintro m st ⟨i,j,ps',H2,B,hij,hj,rfl,hl2,f2,k2,hB,rfl⟩
   obtain ⟨g,hb1,hb2⟩:=box1 hB
   by_cases e : j < ps.length
   ·have e1 : (j : Int) < ps.length:=by omega
    have e2 : (0 : Int)≤j:=by omega
    have wj : IntKind.i64.wrap ((j : Int) + 1) = ((j + 1 : Nat) : Int):=by rw [wrap_i64 (by omega) (by omega)]; omega
    have wi : IntKind.i64.wrap ((i : Int) + 1) = ((i + 1 : Nat) : Int):=by rw [wrap_i64 (by omega) (by omega)]; omega
    have i1 : (i : Int) < ps.length:=by omega
    have i2 : (0 : Int)≤i:=by omega
    have ej : j < ps'.length:=by omega
    obtain ⟨r,d1⟩:=prow_cells (sp:=sp) ej
    simp only [BB0,BB1,Nat.reduceLT,movK,Nat.reduceBEq,BB3,dropLk,dlh64,BB4,BQ,e1,cd_t,ixh64,e2,k2,d1,la96,Nat.reduceLeDiff,List.map_cons,List.map_nil,al96,isP_eq,hb1,hb2,if_false,takK,if_true,Proofs.Tryz.underlying96,Nat.reduceAdd,cn96,Pos.inBox,BB5,hf,hcap]
    refine hp H2 f2 (fun h => by rw [h] at hi0; simp at hi0) ps'[j] _ ?_
    cases hpw : p ps'[j]
    all_goals
     simp only [BB1,BB5,Pos.isHp,BQ,dropLk,BB0,Nat.reduceLT,BB3,BB4,cd_t,movK,Nat.reduceBEq,if_true,la96,Nat.reduceAdd,Nat.reduceLeDiff,List.map_cons,List.map_nil,ixh64,i2,i1,takK,k2,Proofs.Tryz.underlying96,cn96,Pos.inHp,constDV,wi,wj,if_false,cd_f]
    ·have hfl:=flatP_len ps'
     have hil:=(List.getElem?_eq_some_iff.1 k2).1
     have ei : i < ps'.length:=by omega
     have hst : List.take (i * 2) (flatP ps' ++ sp) ++ DV.str ps'[j].key :: DV.str ps'[j].val :: List.drop (i * 2 + 2) (flatP ps' ++ sp) = flatP (ps'.set i ps'[j]) ++ sp:=by
      rw [flatP_set _ _ _ ei,List.take_append_of_le_length (by omega),List.drop_append_of_le_length (by omega)]
      simp [Pr.cells]
     rw [hst]
     refine ⟨by rw [List.length_append]; omega,_,?_,i + 1,j + 1,ps'.set i ps'[j],_,_,by omega,by omega,rfl,by simpa using hl2,(f2.trans (Fr.set _ id _)).mono fun x _ hx => by simpa using hx,List.getElem?_set_self hil,.inr ⟨_,_,rfl⟩,rfl⟩
     omega
    ·refine ⟨_,?_,i,j + 1,ps',H2,_,by omega,by omega,rfl,hl2,f2,k2,.inr ⟨_,_,rfl⟩,rfl⟩
     omega
   ·obtain rfl : j = ps.length:=by omega
    have e1 : ¬ (ps.length : Int) < ps.length:=by omega
    have hfl:=flatP_len ps'
    have ht1 : List.take (i * 2) (flatP ps' ++ sp) = flatP (ps'.take i):=by
     rw [List.take_append_of_le_length (by omega)]
     rw [← List.take_append_drop i ps',flatP_app,List.take_left' (by rw [flatP_len,List.length_take]; omega)]
     rw [List.take_append_drop]
    simp only [BB0,BB1,Nat.reduceLT,movK,Nat.reduceBEq,BB3,dropLk,dlh64,BB4,BQ,e1,cd_f,sch64,dbound,o_clear,cl64,k2,clH_some,flatP_rep,ht1,Pos.inHp,Nat.sub_zero,takK,BB6,if_true,if_false]
    have hil:=(List.getElem?_eq_some_iff.1 k2).1
    have hdr : List.drop (i * 2 + (flatP (List.replicate (ps.length - i) ⟨[],[]⟩)).length) (flatP ps' ++ sp) = sp:=by
     rw [List.drop_left']
     rw [hfl,flatP_len,List.length_replicate]; omega
    have htl : (ps'.take i).length = i:=by rw [List.length_take]; omega
    refine ⟨by omega,by omega,by rw [List.length_append]; omega,by omega,by have:=hr.1; omega,?_⟩
    rw [hdr]
    have:=hK (H2.set id (HObj.cells (flatP (ps'.take i) ++ (flatP (List.replicate (ps.length - i) ⟨[],[]⟩) ++ sp)))) (ps'.take i) ((f2.trans (Fr.set _ id _)).mono fun x _ hx => by simpa using hx) (fun h => by rw [h] at hi0; simp at hi0) (by omega) ⟨by have:=hr.1; omega,fun _ => ⟨flatP (List.replicate (ps.length - i) ⟨[],[]⟩) ++ sp,List.getElem?_set_self hil,by rw [List.length_append,flatP_len,List.length_replicate,hsp,htl]; have:=hr.1; omega⟩⟩
    rw [htl] at this
    exact this
end Go.Ab.En
namespace Go.Ab.En
open Go Go.Conc Go.RowKit Go.Ab
set_option maxRecDepth 10000
noncomputable def b91 : Code:=(Go.Proofs.Tryz.f91.body).getD .skip
theorem hb91 : Go.Proofs.Tryz.f91.body = some b91:=by kernel_rfl
def SUpW : Spec:=fun H args K => ∃ (D : DealS) (own : Bool) (ps : List Pr) (a b : Str),args = [.ptr D.d 0,.sl own 2 (ps.map prD),.str a,.str b]∧D.At H∧D.ws.length < 100000∧ps.length < 100000 ∧
 ∀ H' v (ps' : List Pr),Fr [] H H'→OutQ H H' v ps'→K H' v
def MUw (H : List HObj) (D : DealS) (a b : Str) (n : Nat) (k : Nat) (st : St) : Prop:=∃ (i : Nat) (v : DV) (done : List Pr) (H' : List HObj),i≤D.ws.length∧k = D.ws.length - i∧Fr [] H H'∧OutQ H H' v done∧done.length≤n + i ∧
 st = mk 59 [(0,.ptr D.d 0),(2,.str a),(3,.str b),(9,v),(17,.hsl D.wi 3 0 D.ws.length D.cap),(18,.int .i64 D.ws.length),(19,.int .i64 i)] [] H' []
set_option maxHeartbeats 8000000 in
theorem rcUpW : RC (loneJ pp) 91 SUpW:=by
 have hI:=hI1
 refine rc_of_code (isObj:=isU) (Γ:=envOf [(92,SClQ),(155,SDelG 156 SUp1),(157,SSortP)]) (rs:=[8]) mixed hI (envOf_rc (by simpa using ⟨rcClQ,rcDelG hI (by decide) (rcUp1 hI),rcSortP⟩)) Go.Proofs.Tryz.func91 (by kernel_rfl) hb91 Go.Proofs.Tryz.results91 Go.Proofs.Tryz.ntmps91 (by decide) ?_
 rintro H args K ⟨D,own,ps,a,b,rfl,h1,h2,h3,hK⟩
 refine ⟨by simp,rfl,?_⟩
 unfold b91 Go.Proofs.Tryz.f91
 simp only [Option.getD_some,argSlots,BB2,BQ,BB1,Nat.reduceAdd,BB0,constDV,Proofs.Tryz.underlying64,cn96,dropLk,Nat.reduceLT,movK,Nat.reduceBEq,BB3,lkGet,BB4,BB5,Nat.reduceEqDiff,if_false,if_true,List.map_cons,List.map_nil]
 refine ⟨_,ps,rfl,h3,fun H1 v1 f1 o1 => ?_⟩
 have d1:=h1.fr f1 (by simp)
 have oo:=o1
 obtain ⟨id,cap,rfl,o⟩:=o1
 simp only [BB1,BB5,Pos.isHp,BQ,dropLk,BB0,Nat.reduceLT,takK,BB3,movK,Nat.reduceBEq,BB2,dnil,fp143_4,d1.top,la33,dlh33,constDV]
 refine w_loop [0,2,3,9,17,18,19] (MUw H D a b ps.length) D.ws.length ?_ ?_
 ·exact ⟨0,_,ps,H1,by omega,by omega,f1,oo,by omega,by simp only [BB1,List.map_cons,Nat.reduceBEq,BB3,List.map_nil,BB4]; try rfl⟩
 ·rintro k st ⟨i,v,done,H2,hi,rfl,f2,o2,hdl,rfl⟩
  have d2:=h1.fr f2 (by simp)
  have hle2 : H.length≤H2.length:=f2.1
  obtain ⟨id,cap,rfl,hr,hid⟩:=o2
  by_cases e : i < D.ws.length
  ·have e1 : (i : Int) < D.ws.length:=by omega
   have e2 : (0 : Int)≤i:=by omega
   have wi : IntKind.i64.wrap ((i : Int) + 1) = ((i + 1 : Nat) : Int):=by rw [wrap_i64 (by omega) (by omega)]; omega
   obtain ⟨cs,c1,c2⟩:=d2.wrs.row.2 (by intro h; rw [h] at e; simp at e)
   obtain ⟨r,x1⟩:=hroww_cells c2 e
   rw [Nat.zero_add] at x1
   obtain ⟨X,hX⟩ : ∃ X : HObj,X = .cells [.str D.ws[i].key,.bool D.ws[i].del,.str D.ws[i].val]:=⟨_,rfl⟩
   have g2 : ∀ X : HObj,(H2 ++ [X])[H2.length]? = some X:=fun X => by simp
   have f3 : ∀ X,Fr [] H (H2 ++ [X]):=fun X => (f2.trans (Fr.app [] _ _)).mono (by simp)
   have hlt : cap ≠ 0→id < H2.length:=fun hc => by
    obtain ⟨sp,k1,_⟩:=hr.2 hc
    exact (List.getElem?_eq_some_iff.1 k1).1
   have fin : ∀ (H3 : List HObj) (v3 : DV) (l3 : List Pr) (b' : Str),b' = b→Fr [] H H3→OutQ H H3 v3 l3→l3.length≤ps.length + (i + 1)→∃ m',m' < D.ws.length - i∧MUw H D a b ps.length m' (mk 59 [(0,.ptr D.d 0),(2,.str a),(3,.str b'),(9,v3),(17,.hsl D.wi 3 0 D.ws.length D.cap),(18,.int .i64 D.ws.length),(19,.int .i64 ((i + 1 : Nat) : Int))] [] H3 []):=fun H3 v3 l3 b' eb f3 o3 e3 => ⟨D.ws.length - (i + 1),by omega,i + 1,v3,l3,H3,by omega,rfl,f3,o3,e3,by rw [eb]⟩
   have skip:=fun X (b' : Str) (eb : b' = b) => fin (H2 ++ [X]) (.hsl id 2 0 done.length cap) done b' eb (f3 X) ⟨id,cap,rfl,hr.fr (Fr.app [] _ _) (by simp),hid⟩ (by omega)
   cases hA : Op.bytesLess D.ws[i].key a
   ·have hin : b = []∨(b ≠ []∧Op.bytesLess D.ws[i].key b = true)∨(b ≠ []∧Op.bytesLess D.ws[i].key b = false):=by
     by_cases hb : b = []
     ·exact .inl hb
     ·cases hB : Op.bytesLess D.ws[i].key b
      ·exact .inr (.inr ⟨hb,rfl⟩)
      ·exact .inr (.inl ⟨hb,rfl⟩)
    rcases hin with hb | ⟨hb,hB⟩ | ⟨hb,hB⟩
    iterate 2
     ·first
       | simp only [BB0,BB1,BB4,BQ,Nat.reduceLT,Nat.reduceBEq,BB3,e1,dropLk,cd_t,ixh33,e2,c1,x1,la32,Nat.reduceLeDiff,List.map_cons,List.map_nil,al32,isU_eq,bgen_eq,if_true,takK,BB5,Proofs.Tryz.underlying32,Nat.reduceAdd,cn32,Pos.inHp,fp32_0,la9,movK,hA,gs2_ff,constDV,ne_eq,hb,gs2_tt,hB,if_false,cd_f,DV.plain,forall_eq,BB2,Nat.reduceEqDiff]
       | simp only [hb,BB0,BB1,BB4,BQ,Nat.reduceLT,Nat.reduceBEq,BB3,e1,dropLk,cd_t,ixh33,e2,c1,x1,la32,Nat.reduceLeDiff,List.map_cons,List.map_nil,al32,isU_eq,bgen_eq,if_true,takK,BB5,Proofs.Tryz.underlying32,Nat.reduceAdd,cn32,Pos.inHp,fp32_0,la9,movK,hA,gs2_ff,constDV,ne_eq,gs2_ft,BB2,if_false,cd_f,DV.plain,forall_eq,Nat.reduceEqDiff]
      refine ⟨id,cap,done,_,fun q => decide (q.key = D.ws[i].key),rfl,hr.fr (Fr.app [] _ _) (by simp),by omega,rfl,fun H' f' hz' q K' hK' => ⟨H2.length,q,D.ws[i],rfl,?_,hK'⟩,fun H3 l3 f4 hz hl3 hr3 => ?_⟩
      ·by_cases hc : cap = 0
       ·rw [hz' (List.eq_nil_of_length_eq_zero (by have:=hr.1; omega))]; exact g2 _
       ·exact f'.get (g2 _) (by have:=hlt hc; simp; omega)
      have hz' : cap = 0→H3 = H2 ++ [.cells [.str D.ws[i].key,.bool D.ws[i].del,.str D.ws[i].val]]:=fun hc => hz (List.eq_nil_of_length_eq_zero (by have:=hr.1; omega))
      have g3 : H3[H2.length]? = some (.cells [.str D.ws[i].key,.bool D.ws[i].del,.str D.ws[i].val]):=by
       by_cases hc : cap = 0
       ·rw [hz' hc]; exact g2 _
       ·exact f4.get (g2 _) (by have:=hlt hc; simp; omega)
      have f5 : Fr [] H H3:=by
       by_cases hc : cap = 0
       ·rw [hz' hc]; exact f3 _
       ·exact ((f3 _).trans f4).mono fun j hj hm => by have:=hid hc; simp at hm; omega
      have hle3 : H2.length + 1≤H3.length:=by have:=f4.1; simpa using this
      have f6 : ∀ L,Fr [] H (H3 ++ L):=fun L => (f5.trans (Fr.app [] _ _)).mono (by simp)
      cases hd : D.ws[i].del
      all_goals rw [hd] at g3
      all_goals
       by_cases hc : cap = 0
      all_goals
       first
        | (
          subst hc
          have hdl3 : l3 = []:=List.eq_nil_of_length_eq_zero (by have:=hr.1; omega)
          simp only [BB1,BB5,Pos.isHp,BQ,dropLk,BB0,Nat.reduceLT,takK,BB3,Nat.reduceBEq,fp32_1,g3,la4,BB4,cd_t,movK,fp32_0,la9,fp32_2,bd96,bd96_0,BB6,Nat.reduceAdd,Nat.reduceLeDiff,bd96_1,bs64_1,isU_eq,List.map_cons,List.map_nil,aph64_64,constDV,wi,if_false,ne_eq,srcC_h Go.Proofs.Tryz.underlying64,Nat.reduceMul,reduceCtorEq,if_true,cd_f])
        | (
          obtain ⟨sp,k1,hsp⟩:=hr3.2 hc
          have hl3' : id < H3.length:=(List.getElem?_eq_some_iff.1 k1).1
          have k2 : ∀ L,(H3 ++ L)[id]? = some (.cells (flatP l3 ++ sp)):=fun L => by rw [List.getElem?_append_left hl3']; exact k1
          have t3 : List.take (l3.length * 2) (flatP l3 ++ sp) = flatP l3:=List.take_left' (flatP_len _)
          have l1 : l3.length * 2≤(flatP l3 ++ sp).length:=by rw [List.length_append,flatP_len]; omega
          have hdr : List.drop (l3.length * 2 + 2) (flatP l3 ++ sp) = sp.drop 2:=by
           rw [List.drop_append,List.drop_eq_nil_of_le (by rw [flatP_len]; omega),flatP_len,List.nil_append]
           congr 1; omega
          simp only [BB1,BB5,Pos.isHp,BQ,dropLk,BB0,Nat.reduceLT,takK,BB3,Nat.reduceBEq,fp32_1,g3,la4,BB4,cd_t,movK,fp32_0,la9,fp32_2,bd96,bd96_0,BB6,Nat.reduceAdd,Nat.reduceLeDiff,bd96_1,bs64_1,isU_eq,List.map_cons,List.map_nil,aph64_64,hc,constDV,wi,if_false,ne_eq,srcC_h Go.Proofs.Tryz.underlying64,Nat.reduceMul,reduceCtorEq,k2,l1,t3,flatP_sca,Pos.inHp,flatP_ro,hdr,if_true,cd_f])
       first
        | exact fin _ _ l3 _ (by first | rfl | exact hb.symm) f5 ⟨id,_,rfl,hr3,hid⟩ (by omega)
        | (
          intro q hq
          exact fin _ _ [⟨D.ws[i].key,D.ws[i].val⟩] _ (by first | rfl | exact hb.symm) (f6 _) ⟨H3.length + 1,q,rfl,⟨hq,fun _ => ⟨List.replicate ((q - 1) * 2) .undef,by simp [flatP,Pr.cells],by simp⟩⟩,fun _ => by omega⟩ (by simp; omega))
        | (
          have hfl:=flatP_len l3
          have hid2:=hid hc
          refine ⟨by omega,by omega,fun hroom => ⟨by rw [List.length_append,hfl,hsp]; omega,?_⟩,fun hgr q hq => ?_⟩
          ·refine fin _ _ (l3 ++ [⟨D.ws[i].key,D.ws[i].val⟩]) _ (by first | rfl | exact hb.symm) (((f6 _).trans (Fr.set _ id _)).mono fun j hj hm => by simp at hm; omega) ⟨id,cap,by simp,⟨by simpa using hroom,fun _ => ⟨sp.drop 2,?_,by rw [List.length_drop,hsp]; simp; omega⟩⟩,fun _ => hid2⟩ (by simp; omega)
           rw [List.getElem?_set_self (by simp; omega),flatP_app]
           simp [flatP,Pr.cells]
          ·exact fin _ _ (l3 ++ [⟨D.ws[i].key,D.ws[i].val⟩]) _ (by first | rfl | exact hb.symm) (f6 _) ⟨H3.length + 1,q,by simp,⟨by simpa using hq,fun _ => ⟨List.replicate ((q - (l3.length + 1)) * 2) .undef,by simp [flatP,Pr.cells],by simp⟩⟩,fun _ => by omega⟩ (by simp; omega))
    ·simp only [BB0,BB1,BB4,BQ,Nat.reduceLT,Nat.reduceBEq,BB3,e1,dropLk,cd_t,ixh33,e2,c1,x1,la32,Nat.reduceLeDiff,List.map_cons,List.map_nil,al32,isU_eq,bgen_eq,if_true,takK,BB5,Proofs.Tryz.underlying32,Nat.reduceAdd,cn32,Pos.inHp,fp32_0,la9,movK,hA,gs2_ff,constDV,ne_eq,hb,gs2_tt,hB,if_false,wi,reduceCtorEq,rho_fn,Nat.reduceEqDiff]
     exact skip _ _ rfl
   ·simp only [BB0,BB1,BB4,BQ,Nat.reduceLT,Nat.reduceBEq,BB3,e1,dropLk,cd_t,ixh33,e2,c1,x1,la32,Nat.reduceLeDiff,List.map_cons,List.map_nil,al32,isU_eq,bgen_eq,if_true,takK,BB5,Proofs.Tryz.underlying32,Nat.reduceAdd,cn32,Pos.inHp,fp32_0,la9,movK,hA,gs2_tf,constDV,BB2,wi,if_false,reduceCtorEq,rho_fn,Nat.reduceEqDiff]
    exact skip _ _ rfl
  ·obtain rfl : i = D.ws.length:=by omega
   have e1 : ¬ (D.ws.length : Int) < D.ws.length:=by omega
   simp only [BB0,BB1,BB4,BQ,Nat.reduceLT,Nat.reduceBEq,BB3,e1,dropLk,cd_f,movK,rho_fn,BB5,Nat.reduceEqDiff,if_true,if_false,List.map_cons,List.map_nil]
   have hrl:=hr.1
   have hm : ∀ l' : List Pr,l'.Perm done→(l'.take 64).length = min done.length 64:=fun l' hp => by rw [List.length_take,hp.length_eq,Nat.min_comm]
   have w64 : min (done.length : Int) 64 = ((min done.length 64 : Nat) : Int):=by omega
   have w0 : (0 : Int)≤((min done.length 64 : Nat) : Int):=by omega
   have wc : ((min done.length 64 : Nat) : Int)≤(cap : Int):=by omega
   by_cases hd : done = []
   ·subst hd
    refine .inr ⟨id,cap,[],[],rfl,fun h => absurd rfl h,by simp,fun _ => ?_,fun h => absurd rfl h⟩
    simp only [BQ,BB1,BB5,Pos.isHp,dropLk,BB0,Nat.reduceLT,movK,Nat.reduceBEq,BB3,dlh64,BB4,constDV,Int.reduceLT,if_false,sch64,dbound,Int.reduceLE,Int.reduceToNat,Nat.sub_zero,takK,BB6]
    exact ⟨Int.natCast_nonneg _,hK H2 _ [] f2 ⟨id,cap,rfl,hr,hid⟩⟩
   ·have hpos : 0 < done.length:=List.length_pos_iff.2 hd
    have hc : cap ≠ 0:=by omega
    obtain ⟨sp,ho,hsp⟩:=hr.2 hc
    refine .inr ⟨id,cap,done,sp,rfl,fun _ => ho,by omega,fun h => absurd h hd,fun _ l' hp => ?_⟩
    simp only [BB1,BB5,Pos.isHp,BQ,dropLk,BB0,Nat.reduceLT,movK,Nat.reduceBEq,BB3,dlh64,constDV,BB4,sch64,dbound,takK,BB6]
    have wm : (if (64 : Int) < done.length then (64 : Int) else done.length) = ((min done.length 64 : Nat) : Int):=by split <;> omega
    rw [wm,Int.toNat_natCast,Nat.sub_zero,Nat.sub_zero]
    have hidl:=(List.getElem?_eq_some_iff.1 ho).1
    have hid2:=hid hc
    refine ⟨w0,wc,hK _ _ (l'.take 64) ((f2.trans (Fr.set _ id _)).mono fun j hj hm => by simp at hm; omega) ⟨id,cap,by rw [hm l' hp],⟨by rw [hm l' hp]; omega,fun _ => ⟨flatP (l'.drop 64) ++ sp,?_,?_⟩⟩,fun _ => hid2⟩⟩
    ·rw [List.getElem?_set_self hidl,← List.append_assoc,← flatP_app,List.take_append_drop]
    ·rw [List.length_append,flatP_len,hsp,hm l' hp,List.length_drop,hp.length_eq]
     omega
end Go.Ab.En
namespace Go.Ab.En
open Go Go.Conc Go.RowKit Go.Ab
set_option maxRecDepth 10000
theorem gE_mem (n : Int) : ∀ (f : Nat) (es : List Ent) (e : Ent),e∈(gE f es).filterMap (visG n)→e∈es
 | 0,_,e,h => by simp [gE] at h
 | _ + 1,[],e,h => by simp [gE] at h
 | f + 1,x :: r,e,h => by
  obtain ⟨g,hg,hv⟩:=List.mem_filterMap.1 h
  have hsub : ∀ y∈g,y∈x :: r∨y∈g:=fun y hy => .inr hy
  rcases List.mem_cons.1 hg with rfl | hg
  ·unfold visG at hv
   split at hv
   ·rename_i y hy
    split at hv
    ·cases hv
    ·obtain rfl:=Option.some.inj hv
     exact (List.takeWhile_prefix _).subset (List.mem_of_getElem? hy)
   ·cases hv
  ·exact (List.dropWhile_suffix _).subset (gE_mem n f _ e (List.mem_filterMap.2 ⟨g,hg,hv⟩))
theorem scan_key {es : List Ent} (hs : Sorted es) {a b : Str} (ha : a ≠ []) {n : Int} {p : Pr} (h : p∈scanE es a b n) : p.key ≠ []:=by
 unfold scanE at h
 obtain ⟨e,he,rfl⟩:=List.mem_map.1 h
 have h1:=gE_mem n _ _ _ (List.mem_of_mem_take he)
 have h2:=(List.takeWhile_prefix _).subset h1
 obtain ⟨i,hi,rfl⟩:=List.getElem_of_mem h2
 rw [List.getElem_drop]
 intro hk
 have h3:=firstE_ge hs (k:=a) (n:=1000000) (j:=firstE es a 1000000 + i) (Nat.le_add_right _ _) (by rw [List.length_drop] at hi; omega)
 rw [Bool.eq_false_iff,ne_eq,ltE_iff,not_or] at h3
 refine h3.1 ?_
 simp only at hk
 rw [hk]
 cases a with
 | nil => exact absurd rfl ha
 | cons x r => simp [cmpS,Lib.compareBytes]
def cutP (p : Pr) : Pr:=⟨p.key.drop 1,p.val⟩
def scdE (es : List Ent) (c : Int) (a b : Str) (n : Int) : List Pr:=(scanE es (lowE c a) (highE c b) n).map cutP
noncomputable def b90 : Code:=(Go.Proofs.Tryz.f90.body).getD .skip
theorem hb90 : Go.Proofs.Tryz.f90.body = some b90:=by kernel_rfl
def SScd : Spec:=fun H args K => ∃ (D : DealS) (E : EngS) (m : Nat) (c : Int) (a b : Str),args = [.ptr D.d 0,.int .u8 c,.str a,.str b]∧D.At H∧D.over = false∧E.x = D.x∧E.At H∧E.Good m∧m < 300∧0≤c∧c < 256∧a.length < 4000000000000000000∧b.length < 4000000000000000000 ∧
 ∀ H',Fr [] H H'→K H' (.tup [.sl true 2 ((scdE E.es c a b (min D.n m)).map prD),.int .i64 0])
def MSd2 (H : List HObj) (l : List Pr) (k : Nat) (st : St) : Prop:=∃ (i : Nat) (B : List (Nat × Nat × List DV)),i≤l.length∧k = l.length - i∧(B = []∨∃ g c,B = [(16,g,c)]) ∧
 st = mk 54 [(14,.sl true 2 (((l.take i).map cutP).map prD)),(37,.sl false 2 (l.map prD)),(38,.int .i64 l.length),(39,.int .i64 i)] B H []
set_option maxHeartbeats 4000000 in
theorem rcScd {I : Jd pp} (hI : ∀ w e,I.Ok w e) (hS : RC I 58 SSnScan) : RC I 90 SScd:=by
 refine rc_of_code (isObj:=noO) (Γ:=envOf [(154,SEnds),(58,SSnScan)]) (rs:=[8,9]) mixed hI (envOf_rc (by simpa using ⟨rcEnds hI,hS⟩)) Go.Proofs.Tryz.func90 (by kernel_rfl) hb90 Go.Proofs.Tryz.results90 Go.Proofs.Tryz.ntmps90 (by decide) ?_
 rintro H args K ⟨D,E,m,c,a,b,rfl,h1,ho,hx,h2,hg,hm,c0,c1,la,lb,hK⟩
 have t0:=h1.top
 have sn:=h1.snap
 rw [ho] at sn
 refine ⟨by simp,rfl,?_⟩
 unfold b90 Go.Proofs.Tryz.f90
 simp only [Option.getD_some,argSlots,BB2,BQ,BB1,Nat.reduceAdd,BB0,constDV,Proofs.Tryz.underlying64,cn96,dropLk,Nat.reduceLT,movK,Nat.reduceBEq,BB3,BB4,BB5,Nat.reduceEqDiff,if_false,if_true,List.map_cons,List.map_nil]
 refine appEnds c0 c1 la lb ?_
 simp only [BB1,BB5,Pos.isHp,BQ,dropLk,BB0,Nat.reduceLT,movK,BB3,BB2,List.map_cons,List.map_nil,extK,Nat.reduceBEq,takK,dnil,fp143_1,t0,la34,BB4,Nat.reduceEqDiff,if_true,if_false]
 refine appSnScanX hx sn h2 hg hm fun H1 f1 => ?_
 simp only [BB1,BB5,Pos.isHp,BQ,dropLk,BB0,Nat.reduceLT,movK,BB3,BB2,List.map_cons,List.map_nil,extK,Nat.reduceEqDiff,if_false,Nat.reduceBEq,Pos.atSlot,takK,lkGet,if_true,BB6,pt1,reduceCtorEq,BB4,constDV,ne_eq,cd_f,Proofs.Tryz.underlying64,cn96,dl64,List.length_map]
 have hkey : ∀ p∈scanE E.es (lowE c a) (highE c b) (min D.n m),p.key ≠ []:=fun p hp => scan_key h2.sorted (by simp [lowE,keyS]) hp
 have hll:=scanE_len E.es (lowE c a) (highE c b) (min D.n m)
 have hfin:=hK H1 f1
 unfold scdE at hfin
 generalize scanE E.es (lowE c a) (highE c b) (min D.n m) = l at *
 refine w_loop [14,37,38,39] (MSd2 H1 l) l.length ?_ ?_
 ·exact ⟨0,[],by omega,by omega,.inl rfl,by simp only [BB1,List.map_cons,Nat.reduceBEq,BB3,List.map_nil,List.take_zero,BB4]; try rfl⟩
 ·rintro k st ⟨i,B,hi,rfl,hB,rfl⟩
  obtain ⟨g,hb1,hb2⟩:=box1 hB
  by_cases e : i < l.length
  ·have e1 : (i : Int) < l.length:=by omega
   have e2 : (0 : Int)≤i:=by omega
   have wi : IntKind.i64.wrap ((i : Int) + 1) = ((i + 1 : Nat) : Int):=by rw [wrap_i64 (by omega) (by omega)]; omega
   have hx2:=prD_get e
   have hk:=hkey _ (List.getElem_mem e)
   have hk1 : 1≤(l[i]).key.length:=List.length_pos_iff.2 hk
   have hk2 : (1 : Int)≤((l[i]).key.length : Int):=by omega
   simp only [BB0,BB1,BB4,BQ,Nat.reduceLT,Nat.reduceBEq,BB3,e1,dropLk,cd_t,ix64,e2,List.length_map,hx2,la96,Nat.reduceAdd,Nat.reduceLeDiff,List.map_cons,List.map_nil,al96,isO_eq,hb1,hb2,if_false,takK,if_true,Proofs.Tryz.underlying96,cn96,Pos.inBox]
   refine w_draw [0,3,6,7,8,9] (.quiet 1 (.quiet 2 (.quiet 4 (.quiet 5 (.acts [(0,[5,4,2,1],.acts [(3,[5,4],.acts [(6,[],.acts [(7,[],.acts [(8,[],.acts [(9,[],.done)])])])])]),(3,[5,4],.acts [(0,[5,4,2,1],.acts [(6,[],.acts [(7,[],.acts [(8,[],.acts [(9,[],.done)])])])]),(6,[],.acts [(0,[5,4,2,1],.acts [(7,[],.acts [(8,[],.acts [(9,[],.done)])])]),(7,[],.acts [(0,[5,4,2,1],.acts [(8,[],.acts [(9,[],.done)])])])])])]))))) (by decide) (by kernel_rfl) ?_
   simp only [BB0,BB5,BB1,Nat.reduceLT,Nat.reduceBEq,BB3,fl96_0,BQ,dropLk,if_true,la9,fl96_1,movK,Nat.reduceEqDiff,if_false,dropLks,Pos.atSlot,constDV,sc9,dbound,Int.reduceLE,hk2,Int.reduceToNat,bd96,bd96_0,takK,BB6,Nat.reduceAdd,Nat.reduceLeDiff,BB4,bd96_1,bs64_1,isO_eq,List.map_cons,List.map_nil,apo64_64,lkGet,ap64_64,List.length_map,wi]
   have htk : ((l.take i).map cutP).map prD ++ [.agg [.str (List.drop 1 (List.take (List.length l[i].key) l[i].key)),.str l[i].val]] = ((l.take (i + 1)).map cutP).map prD:=by
    rw [List.take_succ_eq_append_getElem e,List.map_append,List.map_append,List.take_length]; rfl
   have hit : (l.take i).length = i:=by rw [List.length_take]; omega
   rw [htk,hit]
   repeat' with_reducible apply And.intro
   all_goals
    first
     | omega
     | (refine ⟨_,?_,i + 1,_,by omega,rfl,.inr ⟨_,_,rfl⟩,rfl⟩; omega)
  ·obtain rfl : i = l.length:=by omega
   have e1 : ¬ (l.length : Int) < l.length:=by omega
   simp only [List.take_length,BB0,BB1,BB4,BQ,Nat.reduceLT,Nat.reduceBEq,BB3,e1,dropLk,cd_f,movK,Nat.reduceEqDiff,if_false,takK,lkGet,if_true,BB6,Pos.atSlot,constDV]
   exact hfin
noncomputable def b35 : Code:=(Go.Proofs.Tryz.f35.body).getD .skip
theorem hb35 : Go.Proofs.Tryz.f35.body = some b35:=by kernel_rfl
def SDScanW : Spec:=fun H args K => ∃ (D : DealS) (E : EngS) (m : Nat) (c : Int) (a b : Str),args = [.ptr D.d 0,.int .u8 c,.str a,.str b]∧c = D.home∧D.At H∧E.x = D.x∧E.At H∧E.Good m∧m < 300∧0≤c∧c < 256∧a.length < 4000000000000000000∧b.length < 4000000000000000000∧D.ws.length < 100000∧D.reads.length < 100000 ∧
 (D.over = true→K H (.tup [.sl true 2 [],.int .i64 18]))∧(D.over = false→∀ H' id n cap,Fr [D.d] H H'→DealS.At { D with reads:=D.reads ++ [⟨c,true,a,b,scdE E.es c a b (min D.n m)⟩] } H'→K H' (.tup [.hsl id 2 0 n cap,.int .i64 0]))
set_option maxHeartbeats 4000000 in
theorem rcDScanW (hS : RC (loneJ pp) 58 SSnScan) : RC (loneJ pp) 35 SDScanW:=by
 have hI:=hI1
 refine rc_of_code (isObj:=noO) (Γ:=envOf [(90,SScd),(91,SUpW)]) (rs:=[8,9]) mixed hI (envOf_rc (by simpa using ⟨rcScd hI hS,rcUpW⟩)) Go.Proofs.Tryz.func35 (by kernel_rfl) hb35 Go.Proofs.Tryz.results35 Go.Proofs.Tryz.ntmps35 (by decide) ?_
 rintro H args K ⟨D,E,m,c,a,b,rfl,hc,h1,hx,h2,hg,hm,c0,c1,la,lb,hwl,hrl,hK1,hK⟩
 subst hc
 have t0:=h1.top
 cases ho : D.over
 ·rw [ho] at t0
  refine ⟨by simp,rfl,?_⟩
  unfold b35 Go.Proofs.Tryz.f35
  simp only [Option.getD_some,argSlots,BB2,BQ,BB1,Nat.reduceAdd,BB0,constDV,Proofs.Tryz.underlying64,cn96,dropLk,Nat.reduceLT,movK,Nat.reduceBEq,BB3,dnil,fp143_5,t0,la4,cd_f,BB4,BB5,Nat.reduceEqDiff,if_false,if_true,List.map_cons,List.map_nil]
  refine ⟨D,E,m,D.home,a,b,rfl,h1,ho,hx,h2,hg,hm,c0,c1,la,lb,fun H1 f1 => ?_⟩
  have d1:=h1.fr f1 (by simp)
  have t1:=d1.top
  rw [ho] at t1
  have w2 : IntKind.i64.wrap D.home = D.home:=wrap_i64 (by omega) (by omega)
  obtain ⟨sc,hsc⟩ : ∃ sc,scdE E.es D.home a b (min D.n m) = sc:=⟨_,rfl⟩
  rw [hsc] at hK
  have lt1:=(List.getElem?_eq_some_iff.1 t1).1
  have g1 : ∀ X,(H1.set D.d X)[D.d]? = some X:=fun X => List.getElem?_set_self lt1
  simp only [hsc,BB1,BB5,Pos.isHp,BQ,dropLk,BB0,Nat.reduceLT,movK,BB3,BB2,List.map_cons,List.map_nil,extK,Nat.reduceEqDiff,if_false,Nat.reduceBEq,Pos.atSlot,takK,lkGet,if_true,BB6,pt1,reduceCtorEq,BB4,constDV,ne_eq,cd_f,dnil,fp143_3,t1,la67,addrPos,ia67,cv5_3,w2,bd148,isO_eq,BB7,bd148_0,Nat.reduceAdd,Nat.reduceLeDiff,bd148_1,bd148_2,bd148_3,bd148_4,bs67_1,apo67_67,ap67_67,g1,Proofs.Tryz.underlying67,cn67,Pos.inHp,fp143_2,la5,cd_t]
  have hup : DealS.At { D with reads:=D.reads ++ [⟨D.home,true,a,b,sc⟩] } (H1.set D.d (.cells [.ptr D.x 0,.ptr D.s 0,.int .u8 D.home,.sl true 5 (D.reads.map rdD ++ [.agg [.int .i64 D.home,.bool true,.str a,.str b,.sl false 2 (sc.map prD)]]),.hsl D.wi 3 0 D.ws.length D.cap,.bool false])) :=
   h1.readUp f1 (D.reads ++ [⟨D.home,true,a,b,sc⟩]) _ (by rw [ho,List.map_append]; rfl)
  have hsl : sc.length < 100000:=by
   rw [← hsc]
   unfold scdE scanE
   rw [List.length_map,List.length_map,List.length_take]; omega
  refine ⟨by rw [List.length_map]; omega,by rw [List.length_map]; omega,?_⟩
  refine ⟨{ D with reads:=D.reads ++ [⟨D.home,true,a,b,sc⟩] },false,sc,a,b,rfl,hup,hwl,hsl,fun H2 v l' f2 o2 => ?_⟩
  obtain ⟨id,cap,rfl,q2,q3⟩:=o2
  simp only [BB1,BB5,Pos.isHp,BQ,dropLk,BB0,Nat.reduceLT,takK,BB3,constDV,BB6,Nat.reduceBEq]
  exact hK ho H2 _ _ _ (((f1.trans (Fr.set _ D.d _)).trans f2).mono (by simp)) (hup.fr f2 (by simp))
 ·rw [ho] at t0
  refine ⟨by simp,rfl,?_⟩
  unfold b35 Go.Proofs.Tryz.f35
  simp only [Option.getD_some,argSlots,BB2,BQ,BB1,Nat.reduceAdd,BB0,constDV,Proofs.Tryz.underlying64,cn96,dropLk,Nat.reduceLT,movK,Nat.reduceBEq,BB3,dnil,fp143_5,t0,la4,cd_t,BB6]
  exact hK1 ho
end Go.Ab.En
namespace Go.Ab.En
open Go Go.Conc Go.RowKit Go.Ab
def seenR (es : List Ent) (n : Int) (r : Rd) : List Pr:=if r.scan then scdE es 97 r.frm r.til n else match seenE es (keyS 97 r.frm) n with
 | some v => [⟨r.frm,v⟩]
 | none => []
theorem now_seen {L : List (List Wr)} {es : List Ent} (h : StoreIs L es) (hh : HomeOk L) (r : Rd) : nowR L r = seenR es (L.length : Nat) r:=by
 unfold nowR seenR
 cases r.scan
 ·simp only [Bool.false_eq_true,if_false]
  unfold nowG
  cases hl : lastR L (keyS 97 r.frm) L.length with
  | none =>
   cases hs : seenE es (keyS 97 r.frm) (L.length : Nat) with
   | none => rfl
   | some v =>
    obtain ⟨w,hw,hk,_,_⟩:=h.seen.1 hs
    have:=(last_iff h.nodup (Nat.le_refl _)).2 ⟨hw,hk⟩
    rw [hl] at this; cases this
  | some w =>
   obtain ⟨hw,hk⟩:=(last_iff h.nodup (Nat.le_refl _)).1 hl
   cases hd : w.del
   ·have hs:=h.seen.2 ⟨w,hw,hk,hd,rfl⟩
    simp only [hs,hd,Bool.false_eq_true,if_false]
   ·cases hs : seenE es (keyS 97 r.frm) (L.length : Nat) with
    | none => simp only [hd,if_true]
    | some v =>
     obtain ⟨w',hw',hk',hd',_⟩:=h.seen.1 hs
     have:=(last_iff h.nodup (Nat.le_refl _)).2 ⟨hw',hk'⟩
     rw [hl] at this
     rw [← Option.some.inj this,hd] at hd'; cases hd'
 ·simp only [if_true]
  exact (h.scd hh L.length r.frm r.til).symm
theorem seen_stay {L : List (List Wr)} {es es' : List Ent} {b : List Wr} (h : StoreIs L es) (h' : StoreIs (L ++ [b]) es') {n : Nat} (hn : n≤L.length) (r : Rd) : seenR es' n r = seenR es n r:=by
 obtain ⟨s1,s2⟩:=h.stay h' hn
 unfold seenR scdE
 rw [s1,s2]
theorem moved_seen {es : List Ent} {n m : Int} {r : Rd} (h : movedE es n m r = false) (hl : r.level = 97) : seenR es (min n m) r = seenR es m r:=by
 unfold movedE at h
 unfold seenR scdE
 rw [hl] at h
 cases hs : r.scan
 ·simp only [hs,Bool.false_eq_true,if_false,Bool.not_eq_false',decide_eq_true_eq] at h ⊢
  rw [h]
 ·simp only [hs,if_true,Bool.not_eq_false',decide_eq_true_eq] at h ⊢
  rw [h]
structure RdGood (es : List Ent) (n : Nat) (r : Rd) : Prop where
 ok : RdOk r
 lv : r.level = 97
 prs : r.prs = seenR es n r
structure DealOk (es : List Ent) (m i : Nat) (d : DealS) (n : Nat) : Prop where
 home : d.home = 97
 hn : d.n = (n : Int)
 le : n≤m
 ws : WsOk d.ws
 rl : d.reads.length≤i
 rd : ∀ r∈d.reads,RdGood es n r
theorem DealOk.mono {es : List Ent} {m i j : Nat} {d : DealS} {n : Nat} (h : DealOk es m i d n) (hij : i≤j) : DealOk es m j d n:=⟨h.home,h.hn,h.le,h.ws,Nat.le_trans h.rl hij,h.rd⟩
theorem DealOk.stay {L : List (List Wr)} {es es' : List Ent} {b : List Wr} {i : Nat} {d : DealS} {n : Nat} (h : DealOk es L.length i d n) (hs : StoreIs L es) (hs' : StoreIs (L ++ [b]) es') : DealOk es' (L.length + 1) i d n :=
 ⟨h.home,h.hn,Nat.le_succ_of_le h.le,h.ws,h.rl,fun r hr => ⟨(h.rd r hr).ok,(h.rd r hr).lv,by rw [seen_stay hs hs' h.le]; exact (h.rd r hr).prs⟩⟩
theorem DealOk.ready {L : List (List Wr)} {es : List Ent} {i : Nat} {d : DealS} {n : Nat} (h : DealOk es L.length i d n) (hs : StoreIs L es) (hh : HomeOk L) (hr : readyC d.over es d.n (L.length : Nat) d.reads = 0) : d.over = false∧∀ r∈d.reads,nowR L r = r.prs:=by
 unfold readyC at hr
 cases ho : d.over
 ·refine ⟨rfl,fun r hm => ?_⟩
  rw [ho] at hr
  simp only [Bool.false_eq_true,if_false] at hr
  cases ha : d.reads.any (movedE es d.n (L.length : Nat))
  ·have h1 : movedE es d.n (L.length : Nat) r = false:=by
    have:=List.any_eq_false.1 ha r hm
    simpa using this
   obtain ⟨_,g2,g3⟩:=h.rd r hm
   have h2:=moved_seen h1 g2
   have h3 : min d.n ((L.length : Nat) : Int) = (n : Int):=by rw [h.hn]; have:=h.le; omega
   rw [h3] at h2
   rw [now_seen hs hh,← h2]; exact g3.symm
  ·rw [ha] at hr; simp at hr
 ·rw [ho] at hr; simp at hr
structure Ser (E : EngS) (x s m : Nat) (es : List Ent) (hd : Hd) (L : List (List Wr)) (D : Nat→Option DealS) (i : Nat) (H : List HObj) : Prop where
 is : E.Is x m es hd H
 ref : RefAt H s L
 st : StoreIs L es
 home : HomeOk L
 len : L.length = m
 b8 : ∀ b∈L,b.length≤8
 mi : m≤i
 hd' : HdOk i hd
 sE : s ∉ E.all
 sD : ∀ j d,D j = some d→s ∉ d.all
 on : ∀ j d,D j = some d→d.On E H
 ok : ∀ j d,D j = some d→∃ n,DealOk es m i d n
 ap : ∀ j k d e,j ≠ k→D j = some d→D k = some e→∀ y∈d.all,y ∉ e.all
def updD (D : Nat→Option DealS) (k : Nat) (d : DealS) : Nat→Option DealS:=fun j => if j = k then some d else D j
theorem updD_some {D : Nat→Option DealS} {k j : Nat} {d e : DealS} (h : updD D k d j = some e) : (j = k∧e = d)∨(j ≠ k∧D j = some e):=by
 unfold updD at h
 split at h
 ·rename_i e1; cases h; exact .inl ⟨e1,rfl⟩
 ·rename_i e1; exact .inr ⟨e1,h⟩
theorem RefAt.fr {H H' : List HObj} {s : Nat} {L : List (List Wr)} {S : List Nat} (h : RefAt H s L) (f : Fr S H H') (hs : s ∉ S) : RefAt H' s L:=f.get h hs
theorem RefAt.lt {H : List HObj} {s : Nat} {L : List (List Wr)} (h : RefAt H s L) : s < H.length:=(List.getElem?_eq_some_iff.1 h).1
section
variable {E : EngS} {x s m : Nat} {es : List Ent} {hd : Hd} {L : List (List Wr)} {D : Nat→Option DealS} {i : Nat} {H : List HObj}
theorem Ser.move (h : Ser E x s m es hd L D i H) {S : List Nat} {H' : List HObj} (f : Fr S H H') (hE : ∀ y∈S,y ∉ E.all) (hs : s ∉ S) (hD : ∀ j d,D j = some d→∀ y∈d.all,y ∉ S) : Ser E x s m es hd L D i H' :=
 { h with is:=h.is.fr f hE,ref:=h.ref.fr f hs,on:=fun j d hj => (h.on j d hj).fr f (hD j d hj) }
theorem Ser.next (h : Ser E x s m es hd L D i H) : Ser E x s m es hd L D (i + 1) H :=
 { h with mi:=Nat.le_succ_of_le h.mi,hd':=h.hd'.mono (by omega),ok:=fun j d hj => by obtain ⟨n,hn⟩:=h.ok j d hj; exact ⟨n,hn.mono (Nat.le_succ _)⟩ }
theorem Ser.upd (h : Ser E x s m es hd L D i H) {k : Nat} {d d' : DealS} {n : Nat} {S : List Nat} {H' : List HObj} (hk : D k = some d) (f : Fr S H H') (hS : ∀ y∈S,y∈d.all) (is' : E.Is x m es hd H') (on' : d'.On E H') (al : ∀ y∈d'.all,y∈d.all∨H.length≤y) (ok' : DealOk es m (i + 1) d' n) : Ser E x s m es hd L (updD D k d') (i + 1) H' where
 is:=is'
 ref:=h.ref.fr f fun hm => h.sD k d hk (hS s hm)
 st:=h.st
 home:=h.home
 len:=h.len
 b8:=h.b8
 mi:=Nat.le_succ_of_le h.mi
 hd':=h.hd'.mono (by omega)
 sE:=h.sE
 sD j e hj:=by
  rcases updD_some hj with ⟨_,rfl⟩ | ⟨_,hj⟩
  ·intro hm
   rcases al s hm with h1 | h1
   ·exact h.sD k d hk h1
   ·have:=h.ref.lt; omega
  ·exact h.sD j e hj
 on j e hj:=by
  rcases updD_some hj with ⟨_,rfl⟩ | ⟨hne,hj⟩
  ·exact on'
  ·exact (h.on j e hj).fr f fun y hy hm => h.ap j k e d hne hj hk y hy (hS y hm)
 ok j e hj:=by
  rcases updD_some hj with ⟨_,rfl⟩ | ⟨_,hj⟩
  ·exact ⟨n,ok'⟩
  ·obtain ⟨n',hn⟩:=h.ok j e hj; exact ⟨n',hn.mono (Nat.le_succ _)⟩
 ap j k' e e' hne hj hk':=by
  rcases updD_some hj with ⟨rfl,rfl⟩ | ⟨h1,hj2⟩
  ·rcases updD_some hk' with ⟨rfl,rfl⟩ | ⟨h2,hk2⟩
   ·exact absurd rfl hne
   ·intro y hy hm
    rcases al y hy with h3 | h3
    ·exact h.ap j k' d e' hne hk hk2 y h3 hm
    ·have:=(h.on k' e' hk2).at'.lt y hm; omega
  ·rcases updD_some hk' with ⟨rfl,rfl⟩ | ⟨h2,hk2⟩
   ·intro y hy hm
    rcases al y hm with h3 | h3
    ·exact h.ap j k' e d hne hj2 hk y hy h3
    ·have:=(h.on j e hj2).at'.lt y hy; omega
   ·exact h.ap j k' e e' hne hj2 hk2
theorem Ser.opened (h : Ser E x s m es hd L D i H) {k : Nat} {d' : DealS} {E' : EngS} {H' : List HObj} (f : Fr E.all H H') (is' : E'.Is x m es (holdH hd m) H') (al : E'.all = E.all) (on' : d'.On E' H') (dn : d'.n = (m : Int)) (dh : d'.home = 97) (dr : d'.reads = []) (dw : d'.ws = []) (dl : ∀ y∈d'.all,H.length≤y) : Ser E' x s m es (holdH hd m) L (updD D k d') (i + 1) H' where
 is:=is'
 ref:=h.ref.fr f h.sE
 st:=h.st
 home:=h.home
 len:=h.len
 b8:=h.b8
 mi:=Nat.le_succ_of_le h.mi
 hd':=h.hd'.hold (by omega) m
 sE:=by rw [al]; exact h.sE
 sD j e hj:=by
  rcases updD_some hj with ⟨_,rfl⟩ | ⟨_,hj⟩
  ·intro hm
   have:=dl s hm
   have:=h.ref.lt; omega
  ·exact h.sD j e hj
 on j e hj:=by
  rcases updD_some hj with ⟨_,rfl⟩ | ⟨hne,hj⟩
  ·exact on'
  ·exact (h.on j e hj).move f (fun y hy => (h.on j e hj).ap y hy) (by rw [is'.hx,h.is.hx]) fun y hy => .inl (by rw [← al]; exact hy)
 ok j e hj:=by
  rcases updD_some hj with ⟨_,rfl⟩ | ⟨_,hj⟩
  ·exact ⟨m,dh,dn,Nat.le_refl _,by rw [dw]; exact WsOk.nil,by rw [dr]; simp,by rw [dr]; simp⟩
  ·obtain ⟨n',hn⟩:=h.ok j e hj; exact ⟨n',hn.mono (Nat.le_succ _)⟩
 ap j k' e e' hne hj hk':=by
  rcases updD_some hj with ⟨rfl,rfl⟩ | ⟨h1,hj2⟩
  ·rcases updD_some hk' with ⟨rfl,rfl⟩ | ⟨h2,hk2⟩
   ·exact absurd rfl hne
   ·intro y hy hm
    have:=dl y hy
    have:=(h.on k' e' hk2).at'.lt y hm; omega
  ·rcases updD_some hk' with ⟨rfl,rfl⟩ | ⟨h2,hk2⟩
   ·intro y hy hm
    have:=dl y hm
    have:=(h.on j e hj2).at'.lt y hy; omega
   ·exact h.ap j k' e e' hne hj2 hk2
theorem Ser.over (h : Ser E x s m es hd L D i H) {k : Nat} {d : DealS} {E' : EngS} {H' : List HObj} {m' : Nat} {es' : List Ent} {hd2 : Hd} {L' : List (List Wr)} {S : List Nat} (hk : D k = some d) (f : Fr S H H') (hS : ∀ y∈S,y∈E.all∨y∈d.all∨y = s∨H.length≤y) (is' : E'.Is x m' es' hd2 H') (al : ∀ y∈E'.all,y∈E.all∨(H.length≤y∧y ≠ s)) (on' : DealS.On { d with over:=true } E' H') (ref' : RefAt H' s L') (st' : StoreIs L' es') (hom : HomeOk L') (len' : L'.length = m') (b8 : ∀ b∈L',b.length≤8) (mi' : m'≤i + 1) (hd3 : HdOk (i + 1) hd2)
  (ok' : ∀ e n,DealOk es m i e n→DealOk es' m' (i + 1) e n) : Ser E' x s m' es' hd2 L' (updD D k { d with over:=true }) (i + 1) H' where
 is:=is'
 ref:=ref'
 st:=st'
 home:=hom
 len:=len'
 b8:=b8
 mi:=mi'
 hd':=hd3
 sE hm:=by
  rcases al s hm with h1 | h1
  ·exact h.sE h1
  ·exact h1.2 rfl
 sD j e hj:=by
  rcases updD_some hj with ⟨_,rfl⟩ | ⟨_,hj⟩
  ·exact h.sD k d hk
  ·exact h.sD j e hj
 on j e hj:=by
  rcases updD_some hj with ⟨_,rfl⟩ | ⟨hne,hj⟩
  ·exact on'
  ·have ho:=h.on j e hj
   refine ho.move f (fun y hy hm => ?_) (by rw [is'.hx,h.is.hx]) fun y hy => (al y hy).imp _root_.id fun h => h.1
   rcases hS y hm with h1 | h1 | h1 | h1
   ·exact ho.ap y hy h1
   ·exact h.ap j k e d hne hj hk y hy h1
   ·subst h1; exact h.sD j e hj hy
   ·have:=ho.at'.lt y hy; omega
 ok j e hj:=by
  rcases updD_some hj with ⟨_,rfl⟩ | ⟨_,hj⟩
  ·obtain ⟨n',hn⟩:=h.ok k d hk
   have hn2:=ok' d n' hn
   exact ⟨n',hn2.home,hn2.hn,hn2.le,hn2.ws,hn2.rl,hn2.rd⟩
  ·obtain ⟨n',hn⟩:=h.ok j e hj; exact ⟨n',ok' e n' hn⟩
 ap j k' e e' hne hj hk':=by
  rcases updD_some hj with ⟨rfl,rfl⟩ | ⟨h1,hj2⟩
  ·rcases updD_some hk' with ⟨rfl,rfl⟩ | ⟨h2,hk2⟩
   ·exact absurd rfl hne
   ·exact h.ap j k' d e' hne hk hk2
  ·rcases updD_some hk' with ⟨rfl,rfl⟩ | ⟨h2,hk2⟩
   ·exact h.ap j k' e d hne hj2 hk
   ·exact h.ap j k' e e' hne hj2 hk2
end
end Go.Ab.En
namespace Go.Ab.En
open Go Go.Conc Go.RowKit Go.Ab
theorem L_dscanW : RC (loneJ pp) 35 SDScanW:=rcDScanW L_sscan
theorem writeW_over (ws : List Wr) (w : Wr) : writeW true ws w = ws:=by unfold writeW writeC; simp
theorem WsOk.write' {ws : List Wr} {w : Wr} {o : Bool} (h : WsOk ws) (hd : w.del = true→w.val = []) : WsOk (writeW o ws w):=by
 cases o
 ·exact h.write hd
 ·rw [writeW_over]; exact h
section
variable {E : EngS} {x s m : Nat} {es : List Ent} {hd : Hd} {L : List (List Wr)} {D : Nat→Option DealS} {i : Nat} {H : List HObj} {K : List HObj→DV→Prop} {k : Nat} {d : DealS}
theorem appPutS {a v : Str} {p : Nat} (hp : d.d = p) (h : Ser E x s m es hd L D i H) (hk : D k = some d) (hv : v.length < 1000000)
  (hK : ∀ H' (d' : DealS) (c : Int),d'.d = p→Ser E x s m es hd L (updD D k d') (i + 1) H'→K H' (.int .i64 c)) : app SPut H [.ptr p 0,.str a,.str v] K:=by
 obtain ⟨n,ok⟩:=h.ok k d hk
 have hl:=ok.ws.len
 refine appPutX hp h.is (h.on k d hk) (by omega) ok.ws.nodup hv fun H' d' f is' on' e1 e2 e3 e4 e5 e6 e7 al => hK H' d' _ (by rw [e1,hp]) (h.upd hk f (fun y hy => DealS.sub hy) is' on' al (n:=n) ⟨by rw [e4]; exact ok.home,by rw [e3]; exact ok.hn,ok.le,by rw [e7]; exact ok.ws.write' (by simp),by rw [e5]; exact Nat.le_succ_of_le ok.rl,by rw [e5]; exact ok.rd⟩)
theorem appDelS {a : Str} {p : Nat} (hp : d.d = p) (h : Ser E x s m es hd L D i H) (hk : D k = some d)
  (hK : ∀ H' (d' : DealS) (c : Int),d'.d = p→Ser E x s m es hd L (updD D k d') (i + 1) H'→K H' (.int .i64 c)) : app SDel H [.ptr p 0,.str a] K:=by
 obtain ⟨n,ok⟩:=h.ok k d hk
 have hl:=ok.ws.len
 refine appDelX hp h.is (h.on k d hk) (by omega) ok.ws.nodup fun H' d' f is' on' e1 e2 e3 e4 e5 e6 e7 al => hK H' d' _ (by rw [e1,hp]) (h.upd hk f (fun y hy => DealS.sub hy) is' on' al (n:=n) ⟨by rw [e4]; exact ok.home,by rw [e3]; exact ok.hn,ok.le,by rw [e7]; exact ok.ws.write' (fun _ => rfl),by rw [e5]; exact Nat.le_succ_of_le ok.rl,by rw [e5]; exact ok.rd⟩)
theorem updD_self {D : Nat→Option DealS} {k : Nat} {d : DealS} (hk : D k = some d) : updD D k d = D:=by
 funext j
 unfold updD
 split
 ·rename_i e; rw [e,hk]
 ·rfl
theorem appGetS {a : Str} {p : Nat} (hp : d.d = p) (h : Ser E x s m es hd L D i H) (hk : D k = some d) (hi : i≤50) (ha : a.length < 1000000)
  (hK : ∀ H' (d' : DealS) (v : Str) (b : Bool) (c : Int),d'.d = p→Ser E x s m es hd L (updD D k d') (i + 1) H'→K H' (.tup [.str v,.bool b,.int .i64 c])) : app SDGet H [.ptr p 0,.int .u8 97,.str a] K:=by
 obtain ⟨n,ok⟩:=h.ok k d hk
 have on:=h.on k d hk
 have hl:=ok.ws.len
 have hr:=ok.rl
 have hmi:=h.mi
 have same : ∀ H',Fr [] H H'→Ser E x s m es hd L (updD D k d) (i + 1) H':=fun H' f => by
  rw [updD_self hk]
  exact (h.move f (by simp) (by simp) (by simp)).next
 subst hp
 refine ⟨d,E,m,97,a,rfl,on.at',on.hx,h.is.at',h.is.good,by omega,by decide,by decide,by omega,by omega,by omega,fun _ H' f => hK H' d _ _ _ rfl (same H' f),fun _ _ H' f => hK H' d _ _ _ rfl (same H' f),fun _ _ _ j hj _ H' f => hK H' d _ _ _ rfl (same H' f),fun _ _ _ H' v f hv a' => ?_⟩
 have hmin : min d.n (m : Int) = (n : Int):=by rw [ok.hn]; have:=ok.le; omega
 rw [h.is.es',hmin] at hv a'
 rw [h.is.es',hmin]
 refine hK H' { d with reads:=d.reads ++ [getR 97 a v (seenE es (keyS 97 a) n).isSome] } _ _ _ rfl (h.upd hk f (fun y hy => by rw [List.mem_singleton.1 hy]; simp [DealS.all]) (h.is.fr f fun y hy => by rw [List.mem_singleton.1 hy]; exact on.ap _ (by simp [DealS.all])) ⟨a',on.hx,fun y hy => on.ap y hy⟩ (fun y hy => .inl hy) (n:=n) ⟨ok.home,ok.hn,ok.le,ok.ws,by simp; omega,fun r hr' => ?_⟩)
 rcases List.mem_append.1 hr' with hr' | hr'
 ·exact ok.rd r hr'
 ·rw [List.mem_singleton.1 hr']
  have hpl : (pairsL a v (seenE es (keyS 97 a) n).isSome).length≤1:=by unfold pairsL; split <;> simp
  refine ⟨⟨by show (0 : Int)≤97; decide,by show (97 : Int) < 256; decide,by show a.length < _; omega,by show ([] : Str).length < _; simp,by show (pairsL a v _).length < _; omega⟩,rfl,?_⟩
  show pairsL a v (seenE es (keyS 97 a) n).isSome = seenR es n ⟨97,false,a,[],_⟩
  unfold seenR
  simp only [Bool.false_eq_true,if_false]
  cases hs : seenE es (keyS 97 a) n with
  | none => rfl
  | some u =>
   rw [hs] at hv
   have:=hv rfl
   rw [Option.some.inj this]; rfl
theorem appScanS {a b : Str} {p : Nat} (hp : d.d = p) (h : Ser E x s m es hd L D i H) (hk : D k = some d) (hi : i≤50) (ha : a.length < 1000000) (hb : b.length < 1000000)
  (hK1 : ∀ H' (d' : DealS),d'.d = p→Ser E x s m es hd L (updD D k d') (i + 1) H'→K H' (.tup [.sl true 2 [],.int .i64 18]))
  (hK2 : ∀ H' (d' : DealS) (id q cap : Nat),d'.d = p→Ser E x s m es hd L (updD D k d') (i + 1) H'→K H' (.tup [.hsl id 2 0 q cap,.int .i64 0])) : app SDScanW H [.ptr p 0,.int .u8 97,.str a,.str b] K:=by
 obtain ⟨n,ok⟩:=h.ok k d hk
 have on:=h.on k d hk
 have hl:=ok.ws.len
 have hr:=ok.rl
 have hmi:=h.mi
 subst hp
 refine ⟨d,E,m,97,a,b,rfl,ok.home.symm,on.at',on.hx,h.is.at',h.is.good,by omega,by decide,by decide,by omega,by omega,by omega,by omega,fun _ => hK1 H d rfl (by rw [updD_self hk]; exact h.next),fun _ H' id q cap f a' => ?_⟩
 have hmin : min d.n (m : Int) = (n : Int):=by rw [ok.hn]; have:=ok.le; omega
 rw [h.is.es',hmin] at a'
 refine hK2 H' { d with reads:=d.reads ++ [⟨97,true,a,b,scdE es 97 a b n⟩] } _ _ _ rfl (h.upd hk f (fun y hy => by rw [List.mem_singleton.1 hy]; simp [DealS.all]) (h.is.fr f fun y hy => by rw [List.mem_singleton.1 hy]; exact on.ap _ (by simp [DealS.all])) ⟨a',on.hx,fun y hy => on.ap y hy⟩ (fun y hy => .inl hy) (n:=n) ⟨ok.home,ok.hn,ok.le,ok.ws,by simp; omega,fun r hr' => ?_⟩)
 rcases List.mem_append.1 hr' with hr' | hr'
 ·exact ok.rd r hr'
 ·rw [List.mem_singleton.1 hr']
  refine ⟨⟨by show (0 : Int)≤97; decide,by show (97 : Int) < 256; decide,by show a.length < _; omega,by show b.length < _; omega,?_⟩,rfl,rfl⟩
  show (scdE es 97 a b n).length < _
  unfold scdE scanE
  rw [List.length_map,List.length_map,List.length_take]; omega
theorem appOpenS (h : Ser E x s m es hd L D i H) (hi : i≤50)
  (hK : ∀ H' (E' : EngS) (d' : DealS),Ser E' x s m es (holdH hd m) L (updD D k d') (i + 1) H'→K H' (.ptr d'.d 0)) : app SDOpen H [.ptr x 0,.int .u8 97] K:=by
 have hc:=h.hd'.cnt (by omega) m
 refine appDOpenX h.is hc.1 (by omega) fun H' E' d' f is' al on' dn dh dr dw _ dl => hK H' E' d' (h.opened f is' al on' dn dh dr dw dl)
end
theorem neat_home {ws : List Wr} (h : WsOk ws) : (neatW (homeW 97 ws)).length≤8∧((neatW (homeW 97 ws)).map (·.key)).Nodup∧∀ w∈neatW (homeW 97 ws),∃ k,k ≠ []∧w.key = keyS 97 k:=by
 have hp:=neatW_perm (home_nodup (c:=97) h.nodup)
 refine ⟨by rw [hp.length_eq]; have:=h.len; simpa [homeW] using this,neatW_nodup _,fun w hw => ?_⟩
 obtain ⟨y,hy,rfl⟩:=List.mem_map.1 (hp.mem_iff.1 hw)
 exact ⟨y.key,(h.ok y hy).1,rfl⟩
section
variable {E : EngS} {x s m : Nat} {es : List Ent} {hd : Hd} {L : List (List Wr)} {D : Nat→Option DealS} {i : Nat} {H : List HObj} {K : List HObj→DV→Prop} {k : Nat} {d : DealS}
theorem appComS {p : Nat} (hp : d.d = p) (h : Ser E x s m es hd L D i H) (hk : D k = some d) (hi : i≤50)
  (hK1 : ∀ H' (E' : EngS) (hd2 : Hd) (r1 r2 : Int),r2 ≠ 0→Ser E' x s m es hd2 L (updD D k { d with over:=true }) (i + 1) H'→K H' (.tup [.int .i64 r1,.int .i64 r2]))
  (hK2 : ∀ H' (E' : EngS) (hd2 : Hd) (es' : List Ent) (r1 : Int),Fr (E.all ++ [d.s,d.d]) H H'→RefAt H' s L→(∀ r∈d.reads,nowR L r = r.prs) →
   (d.ws = []→∀ S H'',Fr S H' H''→(∀ y∈S,H'.length≤y)→Ser E' x s m es hd2 L (updD D k { d with over:=true }) (i + 1) H'') →
   (d.ws ≠ []→∀ S H'',Fr S H' H''→(∀ y∈S,y = s∨H'.length≤y)→RefAt H'' s (L ++ [neatW (homeW 97 d.ws)])→Ser E' x s (m + 1) es' hd2 (L ++ [neatW (homeW 97 d.ws)]) (updD D k { d with over:=true }) (i + 1) H'') →
   K H' (.tup [.int .i64 r1,.int .i64 0])) : app SCommit H [.ptr p 0] K:=by
 obtain ⟨n,ok⟩:=h.ok k d hk
 have on:=h.on k d hk
 have hl:=ok.ws.len
 have hr:=ok.rl
 have hmi:=h.mi
 have hc:=h.hd'.cnt (by omega) d.n
 have hb:=ok.ws.batch 97
 rw [← ok.home] at hb
 have dS : ∀ y∈E.all ++ [d.s,d.d],y∈E.all∨y∈d.all:=fun y hy => by
  rcases List.mem_append.1 hy with h | h
  ·exact .inl h
  ·right
   rcases List.mem_cons.1 h with rfl | h
   ·simp [DealS.all]
   ·rw [List.mem_singleton.1 h]; simp [DealS.all]
 refine appComX hp h.is on (by omega) hc.1 (by omega) (fun r hr' => (ok.rd r hr').ok) (by omega) (by omega) (fun w hw => by have:=(ok.ws.ok w hw).2.1; omega) hb fun H' E' d' m' es' hd' f is' on' ed al em ee eh => ?_
 subst ed
 have hd3 : HdOk ((i : Int) + 1) hd':=by
  rw [eh]
  split
  ·exact h.hd'.mono (by omega)
  ·exact (h.hd'.free (by omega) _).mono (by omega)
 have hd3' : HdOk ((i + 1 : Nat) : Int) hd':=hd3
 have sS : s ∉ E.all ++ [d.s,d.d]:=fun hm => by
  rcases dS s hm with h1 | h1
  ·exact h.sE h1
  ·exact h.sD k d hk h1
 have ref':=h.ref.fr f sS
 have hlt:=h.ref.lt
 have al' : ∀ y∈E'.all,y∈E.all∨(H.length≤y∧y ≠ s):=fun y hy => (al y hy).imp _root_.id fun h => ⟨h,by omega⟩
 have dS' : ∀ y∈E.all ++ [d.s,d.d],y∈E.all∨y∈d.all∨y = s∨H.length≤y:=fun y hy => (dS y hy).imp _root_.id .inl
 by_cases hz : readyC d.over es d.n m d.reads = 0
 ·have hr2 : (if comD d es m then (0 : Int) else readyC d.over es d.n m d.reads) = 0:=by rw [hz]; split <;> rfl
  rw [hr2]
  have hlen:=h.len
  subst hlen
  obtain ⟨ho,hnow⟩:=ok.ready h.st h.home hz
  have hcd : comD d es L.length = !d.ws.isEmpty:=by unfold comD; rw [hz]; rfl
  refine hK2 H' E' hd' es' _ f ref' hnow (fun hw S H'' f2 hS => ?_) (fun hw S H'' f2 hS href => ?_)
  ·rw [hcd,hw] at em ee
   obtain rfl : m' = L.length:=em
   obtain rfl : es' = es:=ee
   have base:=h.over hk f dS' is' al' on' ref' h.st h.home rfl h.b8 (Nat.le_succ_of_le hmi) hd3' (fun e n he => he.mono (Nat.le_succ _))
   exact base.move f2 (fun y hy hm => by have:=is'.at'.allLt y hm; have:=hS y hy; omega) (fun hm => by have:=hS s hm; have:=ref'.lt; omega) (fun j e hj y hy hm => by have:=(base.on j e hj).at'.lt y hy; have:=hS y hm; omega)
  ·have hne : d.ws.isEmpty = false:=by
    cases hw2 : d.ws with
    | nil => exact absurd hw2 hw
    | cons a b => rfl
   rw [hcd,hne] at em ee
   obtain rfl : m' = L.length + 1:=em
   rw [ok.home] at ee
   obtain ⟨b1,b2,b3⟩:=neat_home ok.ws
   have so' : Sorted es':=by rw [← is'.es']; exact is'.at'.sorted
   have st' : StoreIs (L ++ [neatW (homeW 97 d.ws)]) es':=h.st.step b2 (by omega) so' ee
   have lt' : s < H'.length:=ref'.lt
   have f3:=f.trans f2
   have hle : H.length≤H'.length:=f.1
   refine h.over hk f3 (fun y hy => ?_) (is'.fr f2 fun y hy hm => ?_) al' ⟨on'.at'.fr f2 fun y hy hm => ?_,on'.hx,on'.ap⟩ href st' (fun b hb' w hw' => ?_) (by simp) (fun b hb' => ?_) (by omega) hd3' (fun e n he => (he.stay h.st st').mono (Nat.le_succ _))
   ·rcases List.mem_append.1 hy with h1 | h1
    ·exact dS' y h1
    ·rcases hS y h1 with h2 | h2
     ·exact .inr (.inr (.inl h2))
     ·exact .inr (.inr (.inr (by omega)))
   ·rcases hS y hy with h2 | h2
    ·subst h2
     rcases al' y hm with h3 | h3
     ·exact h.sE h3
     ·exact h3.2 rfl
    ·have:=is'.at'.allLt y hm; omega
   ·rcases hS y hm with h2 | h2
    ·subst h2; exact h.sD k d hk hy
    ·have:=on'.at'.lt y hy; omega
   ·rcases List.mem_append.1 hb' with h1 | h1
    ·exact h.home b h1 w hw'
    ·rw [List.mem_singleton.1 h1] at hw'; exact b3 w hw'
   ·rcases List.mem_append.1 hb' with h1 | h1
    ·exact h.b8 b h1
    ·rw [List.mem_singleton.1 h1]; exact b1
 ·have hcd : comD d es m = false:=by unfold comD; simp [hz]
  rw [hcd] at em ee ⊢
  obtain rfl : m' = m:=em
  obtain rfl : es' = es:=ee
  exact hK1 H' E' hd' _ _ hz (h.over hk f dS' is' al' on' ref' h.st h.home h.len h.b8 (Nat.le_succ_of_le hmi) hd3' (fun e n he => he.mono (Nat.le_succ _)))
end
end Go.Ab.En
namespace Go.Ab.En
open Go Go.Conc Go.RowKit Go.Ab
set_option maxRecDepth 10000
def isRS : ObjT:=fun t => t == 59
theorem isRS_eq {t : TypeId} : isRS t = (t == 59):=_root_.id rfl
theorem b_andS {a b : Int} {K : DV→Prop} : dbin pp .and 3 (.int .i64 a) (.int .i64 b) K = K (.int .i64 (bitsOp .and .i64 a b)):=by simp [dbin]
theorem np_eq {K : DV→Prop} : dbin pp .eql 48 .nilp .nilp K = K (.bool true):=by simp [dbin,Go.Proofs.Tryz.underlying48]
theorem lo_nilS {n q : Nat} {l : List (Nat × DV)} {B : List (Nat × Nat × List DV)} {H : List HObj} {lk : List (Nat × Pos)} {t : TypeId} {a : DV} : loadD pp (mk n l B H lk) q t a .nilp = mk n ((q,.nilp) :: l) B H (dropLk q lk):=by simp only [loadD,mk_put]
theorem and3 (a : Int) : ∃ j : Nat,j < 4∧bitsOp .and .i64 a 3 = (j : Int):=by
 have h : (BitVec.ofInt 64 a &&& BitVec.ofInt 64 3).toNat≤3:=by
  rw [BitVec.toNat_and]
  exact Nat.le_trans Nat.and_le_right (by decide)
 refine ⟨(BitVec.ofInt 64 a &&& BitVec.ofInt 64 3).toNat,by omega,?_⟩
 show IntKind.i64.wrap ((BitVec.ofInt 64 a &&& BitVec.ofInt 64 3).toNat : Int) = _
 exact wrap_i64 (by omega) (by omega)
theorem capS {A R : Prop} (h : A) (g : A→R) : R:=g h
def ptrD : Option DealS→DV
 | some d => .ptr d.d 0
 | none => .nilp
def dD (D : Nat→Option DealS) : List DV:=(List.range 4).map fun j => ptrD (D j)
theorem dD_len (D : Nat→Option DealS) : (dD D).length = 4:=by simp [dD]
theorem dD_drop (D : Nat→Option DealS) {j : Nat} (h : j < 4) : ∃ r,List.drop (j * 1) (dD D) = ptrD (D j) :: r:=by
 have hl : j < (dD D).length:=by rw [dD_len]; exact h
 refine ⟨(dD D).drop (j + 1),?_⟩
 rw [Nat.mul_one,List.drop_eq_getElem_cons hl]
 congr 1
 simp [dD]
theorem dD_put (D : Nat→Option DealS) (d : DealS) {j : Nat} (h : j < 4) : List.take (j * 1) (dD D) ++ .ptr d.d 0 :: List.drop (j * 1 + 1) (dD D) = dD (updD D j d):=by
 have hl : j < (dD D).length:=by rw [dD_len]; exact h
 have e : (dD D).set j (.ptr d.d 0) = dD (updD D j d):=by
  refine List.ext_getElem? fun q => ?_
  rw [List.getElem?_set]
  unfold dD updD
  by_cases hq : q < 4
  ·by_cases e : j = q
   ·subst e; simp [hq,ptrD]
   ·simp [e,hq,Ne.symm e]
  ·have h1 : j ≠ q:=by omega
   simp [h1,hq]
 rw [← e,List.set_eq_take_append_cons_drop,if_pos hl,Nat.mul_one]
theorem dD_upd {D : Nat→Option DealS} {d d' : DealS} {j : Nat} (hk : D j = some d) (e : d'.d = d.d) : dD (updD D j d') = dD D:=by
 unfold dD updD
 refine List.map_congr_left fun q _ => ?_
 by_cases h : q = j
 ·subst h; simp [hk,ptrD,e]
 ·simp [h]
def MSer (x s : Nat) (l : List Stp) (k : Nat) (st : St) : Prop:=∃ (i m : Nat) (E : EngS) (es : List Ent) (hd : Hd) (L : List (List Wr)) (D : Nat→Option DealS) (H' : List HObj) (r : List (Nat × Nat × List DV)),i≤l.length∧k = l.length - i∧Ser E x s m es hd L D i H'∧(r = []∨∃ g c,r = [(9,g,c)]) ∧
 st = mk 164 [(0,.sl false 5 (l.map stpD)),(3,.ptr x 0),(5,.ptr s 0),(6,.lptr 6 0 0),(7,.int .i64 i)] ((6,0,dD D) :: r) H' []
noncomputable def b6 : Code:=(Go.Proofs.Tryz.f6.body).getD .skip
theorem hb6 : Go.Proofs.Tryz.f6.body = some b6:=by kernel_rfl
set_option maxHeartbeats 8000000 in
theorem law7 {N0 : Nat} {w0 : World} {d : Nat} {G : Gh} {w : World} {vs : Array Value} (l : List Stp) (hlen : l.length≤9223372036854775807) (hW : WRel N0 w0 G w []) (hF : Fits G w [.sl false 5 (l.map stpD)] vs) :
  Calls pp 6 vs w fun e w' => ∃ v,e = .returned v∧Back N0 w0 d G w (fun _ dv => dv = .bool true) v w':=by
 refine calls_of_code (isObj:=isRS) (Γ:=envOf [(27,SKn),(33,SFew),(17,S17),(16,SMade),(29,SDOpen),(34,SDGet),(35,SDScanW),(30,SPut),(31,SDel),(36,SReads),(32,SWrs),(37,SCommit),(38,SOpenR),(39,SReadyR),(41,SSpaced),(40,SDoR),(25,SSeq),(42,SScan),(44,SScanR),(43,SSameR)]) (rs:=[2]) mixed (envOf_rc (by simpa using ⟨rcKn17,rcFew hI1,L_new,L_open,L_dopen,L_dget,L_dscanW,L_put,L_del,L_reads,L_wrs,L_commit,rcOpenR hI1,rcReadyR hI1,rcSpaced hI1,rcDoR hI1,rcSeq hI1,L_scan,rcScanR hI1,rcSameR hI1⟩)) Go.Proofs.Tryz.func6 hb6 Go.Proofs.Tryz.results6 Go.Proofs.Tryz.ntmps6 (by decide) (args:=[.sl false 5 (l.map stpD)]) (by simp) rfl ?_ hW hF
 unfold b6 Go.Proofs.Tryz.f6
 simp only [BQ,Option.getD_some,argSlots,BB1,BB0,constDV,dropLk,BB4,BB5,Nat.reduceEqDiff,if_false,if_true,List.map_nil]
 refine ⟨rfl,fun H0 => ?_⟩
 simp only [BB1,BB5,Pos.isHp,BQ,dropLk,BB0,Nat.reduceLT,BB3,BB4,cd_f,movK,Nat.reduceBEq,lkGet,Nat.reduceEqDiff,if_false,if_true,List.map_cons,List.map_nil]
 refine ⟨_,l,rfl,hlen,?_⟩
 cases hfw : fewB l
 ·simp only [BB1,BB5,Pos.isHp,List.filter_nil,dropLk,BB0,Nat.reduceLT,BB3,BB4,Bool.not_false,cd_t,constDV,BB6,and_self]
 simp only [BB1,BB5,Pos.isHp,BQ,dropLk,BB0,Nat.reduceLT,BB3,BB4,cd_f,constDV,Nat.reduceEqDiff,if_false,if_true,List.map_cons,List.map_nil]
 obtain ⟨hl50,hst⟩:=few_iff hfw
 refine capp17 fun H1 f1 l1 s1 => ?_
 simp only [BB1,BB5,Pos.isHp,BQ,dropLk,BB0,BB4,Nat.reduceLT,BB3,Nat.reduceEqDiff,if_false,if_true,BB2,List.map_cons,List.map_nil]
 refine appMadeX s1 (by decide) fun H2 E f2 a2 g2 es2 hd2 => ?_
 obtain ⟨x,hx⟩ : ∃ x,E.x = x:=⟨_,rfl⟩
 simp only [hx,BB1,BB5,Pos.isHp,BQ,dropLk,BB0,Nat.reduceLT,movK,BB3,BB2,List.map_cons,List.map_nil,extK,Nat.reduceBEq,takK,BB4,constDV,ne_eq,gs2_ff,p_eql Go.Proofs.Tryz.underlying23,if_false,cd_f,bd59,isRS_eq,BB7,BB6,bgen_eq,if_true,al60]
 have ser0 : Ser E x H2.length 0 [] [] [] (fun _ => none) 0 (H2 ++ [.cells [.sl true 1 []]]) :=
  { is:=⟨hx,a2.frs (Fr.app [] _ _) (by simp),g2,es2,hd2⟩,ref:=by simp [RefAt],st:=StoreIs.nil,home:=fun b hb => by simp at hb,len:=rfl,b8:=fun b hb => by simp at hb,mi:=Nat.le_refl _,hd':=fun p hp => by simp at hp,sE:=fun hm => by have:=a2.allLt _ hm; omega,sD:=fun j d h => by simp at h,on:=fun j d h => by simp at h,ok:=fun j d h => by simp at h,ap:=fun j k d e _ h => by simp at h }
 refine w_loop [0,3,5,6,7] (MSer x H2.length l) l.length ?_ ?_
 ·exact ⟨0,0,E,[],[],[],fun _ => none,_,[],by omega,by omega,ser0,.inl rfl,by simp only [BB1,List.map_cons,Nat.reduceBEq,BB3,List.map_nil,BB4]; try rfl⟩
 generalize H2.length = s
 clear ser0 a2 g2 es2 hd2 f2 s1 f1 l1
 rintro k st ⟨i,m,E,es,hd,L,D,H3,r,hi,rfl,ser,hr,rfl⟩
 by_cases e : i < l.length
 ·have e1 : (i : Int) < l.length:=by omega
  have e2 : (0 : Int)≤i:=by omega
  have wi : IntKind.i64.wrap ((i : Int) + 1) = ((i + 1 : Nat) : Int):=by rw [wrap_i64 (by omega) (by omega)]; omega
  have hx2:=stpD_get e
  obtain ⟨hkl,htl⟩:=hst _ (List.getElem_mem e)
  generalize l[i] = y at *
  obtain ⟨k,hk4,hk⟩:=and3 y.who
  obtain ⟨rr,hdk⟩:=dD_drop D hk4
  obtain ⟨g,hg1,hg2⟩:=box1 hr
  have hb1 : ∀ dc,bgen 9 ((6,0,dc) :: r) = g:=fun dc => hg1
  have hb2 : ∀ dc cs,bset 9 g cs ((6,0,dc) :: r) = [(6,0,dc),(9,g,cs)]:=fun dc cs => by
   show (6,0,dc) :: bset 9 g cs r = _
   rw [hg2]
  have k0 : (0 : Int)≤(k : Int):=by omega
  have k1 : (k : Int) < ((4 : Nat) : Int):=by omega
  have k2 : (k : Int) < 4:=by omega
  have kl : k * 1 + 1≤(dD D).length:=by rw [dD_len]; omega
  have hi50 : i≤50:=by omega
  have fin : ∀ (m' : Nat) (E' : EngS) (es' : List Ent) (hd' : Hd) (L' : List (List Wr)) (D' : Nat→Option DealS) (dc : List DV) (H' : List HObj) (r' : List (Nat × Nat × List DV)),Ser E' x s m' es' hd' L' D' (i + 1) H'→dc = dD D'→(r' = []∨∃ g c,r' = [(9,g,c)])→∃ q,q < l.length - i∧MSer x s l q (mk 164 [(0,.sl false 5 (l.map stpD)),(3,.ptr x 0),(5,.ptr s 0),(6,.lptr 6 0 0),(7,.int .i64 ((i + 1 : Nat) : Int))] ((6,0,dc) :: r') H' []):=fun m' E' es' hd' L' D' dc H' r' a b c => ⟨l.length - (i + 1),by omega,i + 1,m',E',es',hd',L',D',H',r',by omega,rfl,a,c,by rw [b]⟩
  by_cases hw : y.what≤0
  ·simp only [BB0,BB1,Nat.reduceLT,movK,Nat.reduceBEq,BB3,dropLk,lkGet,dl54,List.length_map,BB4,BQ,e1,cd_t,ix54,e2,hx2,fv62_1,la3,constDV,b_andS,hk,takK,fv62_0,hw,gs2_tf,BB2,List.map_nil,if_true,BB5,Nat.reduceEqDiff,if_false,List.map_cons]
   refine appOpenS (k:=k) ser hi50 fun H4 E4 d4 ser4 => ?_
   simp only [BB1,BB5,Pos.isHp,BQ,dropLk,BB0,Nat.reduceLT,Nat.reduceBEq,BB3,ixl60,k0,BB4,k2,takK,BB2,if_true,Proofs.Tryz.underlying48,cn48,dD_put D d4 hk4,Pos.inBox,movK,constDV,wi,List.map_cons,List.map_nil,if_false,reduceCtorEq,Nat.reduceEqDiff]
   refine ⟨kl,?_⟩
   exact fin _ _ _ _ _ _ _ _ _ ser4 rfl hr
  ·cases hD : D k with
   | none =>
    rw [hD] at hdk
    simp only [ptrD] at hdk
    simp only [BB0,BB1,Nat.reduceLT,movK,Nat.reduceBEq,BB3,dropLk,lkGet,dl54,List.length_map,BB4,BQ,e1,cd_t,ix54,e2,hx2,fv62_1,la3,constDV,b_andS,hk,takK,fv62_0,hw,gs2_ff,ixl60,k0,k2,if_true,hdk,la48,BB2,lo_nilS,np_eq,if_false,BB5,Nat.reduceEqDiff,List.map_cons,List.map_nil]
    refine appOpenS (k:=k) ser hi50 fun H4 E4 d4 ser4 => ?_
    simp only [BB1,BB5,Pos.isHp,BQ,dropLk,BB0,Nat.reduceLT,Nat.reduceBEq,BB3,ixl60,k0,BB4,k2,takK,BB2,if_true,Proofs.Tryz.underlying48,cn48,dD_put D d4 hk4,Pos.inBox,movK,constDV,wi,List.map_cons,List.map_nil,if_false,reduceCtorEq,Nat.reduceEqDiff]
    refine ⟨kl,?_⟩
    exact fin _ _ _ _ _ _ _ _ _ ser4 rfl hr
   | some d =>
    rw [hD] at hdk
    simp only [ptrD] at hdk
    by_cases h2 : y.what≤2
    ·simp only [BB0,BB1,Nat.reduceLT,movK,Nat.reduceBEq,BB3,dropLk,lkGet,dl54,List.length_map,BB4,BQ,e1,cd_t,ix54,e2,hx2,fv62_1,la3,constDV,b_andS,hk,takK,fv62_0,hw,gs2_ff,ixl60,k0,k2,if_true,hdk,la48,BB2,p_eql Go.Proofs.Tryz.underlying48,if_false,cd_f,la62,Nat.reduceAdd,Nat.reduceLeDiff,List.map_cons,List.map_nil,al62,isRS_eq,hb1,hb2,Nat.reduceEqDiff,Proofs.Tryz.underlying62,cn62,Pos.inBox,fl62_0,h2]
     refine w_draw [5] (.quiet 0 (.quiet 1 (.quiet 2 (.quiet 3 (.quiet 4 (.acts [(5,[],.done)])))))) (by decide) (by kernel_rfl) ?_
     simp only [BB0,BB5,BB1,Nat.reduceLT,Nat.reduceBEq,BB3,dropLk,ixl60,k0,BB4,k2,BQ,Nat.reduceEqDiff,if_false,if_true,hdk,la48,BB2,fl62_3,la9,constDV,List.map_cons,List.map_nil]
     refine appGetS rfl ser hD hi50 (by omega) fun H4 d4 v b c ed ser4 => ?_
     simp only [BB1,BB5,Pos.isHp,BQ,dropLk,dropLks,BB0,Nat.reduceLT,movK,Nat.reduceBEq,BB3,BB4,constDV,wi,takK,List.map_cons,List.map_nil,if_false]
     exact fin _ _ _ _ _ _ _ _ _ ser4 (dD_upd hD ed).symm (.inr ⟨_,_,rfl⟩)
    ·by_cases h3 : y.what = 3
     ·simp only [BB0,BB1,Nat.reduceLT,movK,Nat.reduceBEq,BB3,dropLk,lkGet,dl54,List.length_map,BB4,BQ,e1,cd_t,ix54,e2,hx2,h3,fv62_1,la3,constDV,b_andS,hk,takK,fv62_0,Int.reduceLE,gs2_ff,ixl60,k0,k2,if_true,hdk,la48,BB2,p_eql Go.Proofs.Tryz.underlying48,if_false,cd_f,la62,Nat.reduceAdd,Nat.reduceLeDiff,List.map_cons,List.map_nil,al62,isRS_eq,hb1,hb2,Nat.reduceEqDiff,Proofs.Tryz.underlying62,cn62,Pos.inBox,fl62_0]
      refine w_draw [7] (.quiet 0 (.quiet 1 (.quiet 2 (.quiet 3 (.quiet 4 (.quiet 5 (.quiet 6 (.acts [(7,[],.done)])))))))) (by decide) (by kernel_rfl) ?_
      simp only [BB0,BB5,BB1,Nat.reduceLT,Nat.reduceBEq,BB3,dropLk,ixl60,k0,BB4,k2,BQ,Nat.reduceEqDiff,if_false,if_true,hdk,la48,BB2,fl62_3,la9,fl62_4,constDV,List.map_cons,List.map_nil]
      refine appScanS rfl ser hD hi50 (by omega) (by omega) (fun H4 d4 ed ser4 => ?_) (fun H4 d4 id q cap ed ser4 => ?_)
      ·simp only [BB1,BB5,Pos.isHp,BQ,dropLk,dropLks,BB0,Nat.reduceLT,movK,Nat.reduceBEq,BB3,BB4,constDV,wi,takK,List.map_cons,List.map_nil,if_false]
       exact fin _ _ _ _ _ _ _ _ _ ser4 (dD_upd hD ed).symm (.inr ⟨_,_,rfl⟩)
      ·simp only [BB1,BB5,Pos.isHp,BQ,dropLk,dropLks,BB0,Nat.reduceLT,movK,Nat.reduceBEq,BB3,BB4,constDV,wi,takK,List.map_cons,List.map_nil,if_false]
       exact fin _ _ _ _ _ _ _ _ _ ser4 (dD_upd hD ed).symm (.inr ⟨_,_,rfl⟩)
     ·by_cases h5 : y.what≤5
      ·simp only [BB0,BB1,Nat.reduceLT,movK,Nat.reduceBEq,BB3,dropLk,lkGet,dl54,List.length_map,BB4,BQ,e1,cd_t,ix54,e2,hx2,fv62_1,la3,constDV,b_andS,hk,takK,fv62_0,hw,gs2_ff,ixl60,k0,k2,if_true,hdk,la48,BB2,p_eql Go.Proofs.Tryz.underlying48,if_false,cd_f,la62,Nat.reduceAdd,Nat.reduceLeDiff,List.map_cons,List.map_nil,al62,isRS_eq,hb1,hb2,Nat.reduceEqDiff,Proofs.Tryz.underlying62,cn62,Pos.inBox,fl62_0,h2,h3,h5]
       refine w_draw [7] (.quiet 0 (.quiet 1 (.quiet 2 (.quiet 3 (.quiet 4 (.quiet 5 (.quiet 6 (.acts [(7,[],.done)])))))))) (by decide) (by kernel_rfl) ?_
       simp only [BB0,BB5,BB1,Nat.reduceLT,Nat.reduceBEq,BB3,dropLk,ixl60,k0,BB4,k2,BQ,Nat.reduceEqDiff,if_false,if_true,hdk,la48,BB2,fl62_3,la9,fl62_4,List.map_cons,List.map_nil]
       refine appPutS rfl ser hD (by omega) fun H4 d4 c ed ser4 => ?_
       simp only [BB1,BB5,Pos.isHp,BQ,dropLk,dropLks,BB0,Nat.reduceLT,movK,Nat.reduceBEq,BB3,BB4,constDV,wi,takK,List.map_cons,List.map_nil,if_false]
       exact fin _ _ _ _ _ _ _ _ _ ser4 (dD_upd hD ed).symm (.inr ⟨_,_,rfl⟩)
      ·by_cases h6 : y.what = 6
       ·simp only [BB0,BB1,Nat.reduceLT,movK,Nat.reduceBEq,BB3,dropLk,lkGet,dl54,List.length_map,BB4,BQ,e1,cd_t,ix54,e2,hx2,h6,fv62_1,la3,constDV,b_andS,hk,takK,fv62_0,Int.reduceLE,gs2_ff,ixl60,k0,k2,if_true,hdk,la48,BB2,p_eql Go.Proofs.Tryz.underlying48,if_false,cd_f,la62,Nat.reduceAdd,Nat.reduceLeDiff,List.map_cons,List.map_nil,al62,isRS_eq,hb1,hb2,Nat.reduceEqDiff,Proofs.Tryz.underlying62,cn62,Pos.inBox,fl62_0,Int.reduceEq]
        refine w_draw [5] (.quiet 0 (.quiet 1 (.quiet 2 (.quiet 3 (.quiet 4 (.acts [(5,[],.done)])))))) (by decide) (by kernel_rfl) ?_
        simp only [BB0,BB5,BB1,Nat.reduceLT,Nat.reduceBEq,BB3,dropLk,ixl60,k0,BB4,k2,BQ,Nat.reduceEqDiff,if_false,if_true,hdk,la48,BB2,fl62_3,la9,List.map_cons,List.map_nil]
        refine appDelS rfl ser hD fun H4 d4 c ed ser4 => ?_
        simp only [BB1,BB5,Pos.isHp,BQ,dropLk,dropLks,BB0,Nat.reduceLT,movK,Nat.reduceBEq,BB3,BB4,constDV,wi,takK,List.map_cons,List.map_nil,if_false]
        exact fin _ _ _ _ _ _ _ _ _ ser4 (dD_upd hD ed).symm (.inr ⟨_,_,rfl⟩)
       ·simp only [BB0,BB1,Nat.reduceLT,movK,Nat.reduceBEq,BB3,dropLk,lkGet,dl54,List.length_map,BB4,BQ,e1,cd_t,ix54,e2,hx2,fv62_1,la3,constDV,b_andS,hk,takK,fv62_0,hw,gs2_ff,ixl60,k0,k2,if_true,hdk,la48,BB2,p_eql Go.Proofs.Tryz.underlying48,if_false,cd_f,la62,Nat.reduceAdd,Nat.reduceLeDiff,List.map_cons,List.map_nil,al62,isRS_eq,hb1,hb2,Nat.reduceEqDiff,Proofs.Tryz.underlying62,cn62,Pos.inBox,fl62_0,h2,h3,h5,h6]
        have on:=ser.on k d hD
        obtain ⟨nd,ok⟩:=ser.ok k d hD
        have hwl:=ok.ws.len
        have hrl:=ok.rl
        have hpr : ∀ r∈d.reads,r.prs.length < 100000:=fun r hr' => (ok.rd r hr').ok.2.2.2.2
        refine' capS (A:=∀ (H4 : List HObj) (own : Bool) (v : DV) (lst : List (Nat × DV)) (cs : List DV),Fr [] H3 H4→OutR H3 H4 v d.ws→(look 0 lst = .sl false 5 (l.map stpD)∧look 3 lst = .ptr x 0∧look 5 lst = .ptr s 0∧look 6 lst = .lptr 6 0 0∧look 7 lst = .int .i64 i∧look 8 lst = .int .i64 k∧look 10 lst = .sl own 5 (d.reads.map rdD)∧look 11 lst = v)→dwp pp isRS _ _ _ (mk 164 lst [(6,0,dD D),(9,g,cs)] H4 [])) ?hc ?gc
        case gc =>
         intro key
         refine w_draw [3,7,8,9] (.quiet 0 (.quiet 1 (.quiet 2 (.quiet 4 (.quiet 5 (.quiet 6 (.acts [(3,[6,5,4],.acts [(7,[],.acts [(8,[],.acts [(9,[],.done)])])])]))))))) (by decide) (by kernel_rfl) ?_
         simp only [BZ1,BZ2,Nat.reduceLT,Nat.reduceBEq,dropLk,BP,ixl60,k0,BZ3,k2,BQ,Nat.reduceEqDiff,if_false,if_true,hdk,la48,List.map_cons,List.map_nil]
         refine ⟨d,rfl,on.at',by omega,hpr,fun own => ?_⟩
         simp only [BZ1,BZ2,Pos.isHp,BQ,BP,dropLk,BZ3,Nat.reduceLT,Nat.reduceBEq,Nat.reduceEqDiff,if_false,if_true,hdk,la48,and_self,ixl60,k0,k2,dropLks,List.map_cons,List.map_nil]
         refine ⟨d,rfl,on.at',by omega,fun H4 v f4 o4 => ?_⟩
         have o4':=o4
         cases own
         all_goals
          rcases o4 with ⟨own4,rfl,hws⟩ | ⟨id,cap,rfl,o4,hid⟩
          ·cases own4
           all_goals
            simp only [BZ1,BZ2,Pos.isHp,BQ,BP,dropLk,dropLks,Nat.reduceLT,takK,Nat.reduceBEq,lkGet,rp_done]
            first
             | (
               with_reducible refine key H4 false _ _ _ f4 o4' ?_
               exact ⟨rfl,rfl,rfl,rfl,rfl,rfl,rfl,rfl⟩)
             | (
               with_reducible refine key H4 true _ _ _ f4 o4' ?_
               exact ⟨rfl,rfl,rfl,rfl,rfl,rfl,rfl,rfl⟩)
          ·simp only [BZ1,BZ2,Pos.isHp,BQ,BP,dropLk,dropLks,Nat.reduceLT,takK,Nat.reduceBEq,lkGet,rp_done]
           first
            | (
              with_reducible refine key H4 false _ _ _ f4 o4' ?_
              exact ⟨rfl,rfl,rfl,rfl,rfl,rfl,rfl,rfl⟩)
            | (
              with_reducible refine key H4 true _ _ _ f4 o4' ?_
              exact ⟨rfl,rfl,rfl,rfl,rfl,rfl,rfl,rfl⟩)
        rintro H4 own v lst cs f4 o4 ⟨q0,q3,q5,q6,q7,q8,q10,q11⟩
        have ser4:=ser.move f4 (by simp) (by simp) (by simp)
        rw [w_seq]
        simp only [BB0,BB1,Nat.reduceLT,movK,q8,dropLk,Nat.reduceBEq,BB3,q6,ixl60,k0,BB4,k2,BQ,Nat.reduceEqDiff,if_false,if_true,hdk,la48,BB2,BB5,List.map_cons,List.map_nil]
        refine appComS rfl ser4 hD hi50 (fun H5 E5 hd5 r1 r2 hne ser5 => ?_) (fun H5 E5 hd5 es5 r1 f5 ref5 hnow hnil hcons => ?_)
        ·simp only [BB1,BB5,Pos.isHp,BQ,dropLk,BB0,Nat.reduceLT,movK,BB3,BB2,List.map_cons,List.map_nil,extK,Nat.reduceBEq,takK,BB4,constDV,ne_eq,hne,cd_t,Nat.reduceEqDiff,q7,wi,q0,q3,q5,q6,if_false,reduceCtorEq,if_true]
         exact fin _ _ _ _ _ _ _ _ _ ser5 (dD_upd (d':={ d with over:=true }) hD rfl).symm (.inr ⟨_,_,rfl⟩)
        ·simp only [BB1,BB5,Pos.isHp,BQ,dropLk,BB0,Nat.reduceLT,movK,BB3,BB2,List.map_cons,List.map_nil,extK,Nat.reduceBEq,takK,BB4,constDV,ne_eq,cd_f,q5,Nat.reduceEqDiff,if_false,if_true]
         refine ⟨s,L,rfl,ref5,?_⟩
         have g1 : ∀ X : HObj,(H5 ++ [X])[H5.length]? = some X:=fun X => by simp
         have hlm:=ser.len
         have hmi:=ser.mi
         have ref6 : ∀ X,RefAt (H5 ++ [X]) s L:=fun X => ref5.fr (Fr.app [] _ _) (by simp)
         have hmh:=map_home ser.home ser.st.nodup L.length
         have hrr : ∀ y∈d.reads,y.level = 97∧y.frm.length < 4000000000000000000∧y.prs.length < 100000∧nowR L y = y.prs:=fun y hy => ⟨(ok.rd y hy).lv,(ok.rd y hy).ok.2.2.1,hpr y hy,hnow y hy⟩
         rcases o4 with ⟨own4,rfl,hws⟩ | ⟨id,cap,rfl,o4,hid⟩
         ·cases own
          all_goals
           simp only [BB1,BB5,Pos.isHp,BQ,dropLk,BB0,Nat.reduceLT,takK,BB3,BB2,movK,Nat.reduceBEq,q10,lkGet,dnil,fp73_3,g1,Proofs.Tryz.underlying67,cn67,Nat.reduceAdd,Nat.reduceLeDiff,BB4,Pos.inHp,Nat.reduceEqDiff,if_false,if_true,List.map_cons,List.map_nil,Pos.atSlot,BB6]
           refine ⟨H5.length,s,d.reads,L,_,_,_,_,rfl,g1 _,ref6 _,by omega,ser.b8,hmh,by omega,hrr,?_⟩
           cases own4
           all_goals
            simp only [BB1,BB5,Pos.isHp,BQ,dropLk,BB0,BB4,Nat.reduceLT,BB3,constDV,ne_eq,cd_f,movK,Nat.reduceBEq,q11,lkGet,dl33,Int.reduceLT,q7,wi,takK,List.map_cons,q0,q3,q5,q6,List.map_nil,if_false,Nat.reduceEqDiff,Pos.atSlot]
            exact fin _ _ _ _ _ _ _ _ _ (hnil hws [] _ (Fr.app [] _ _) (by simp)) (dD_upd (d':={ d with over:=true }) hD rfl).symm (.inr ⟨_,_,rfl⟩)
         ·by_cases hws : d.ws = []
          ·have hw0 : ¬ (0 : Int) < (d.ws.length : Int):=by rw [hws]; decide
           cases own
           all_goals
            simp only [BB1,BB5,Pos.isHp,BQ,dropLk,BB0,Nat.reduceLT,takK,BB3,BB2,movK,Nat.reduceBEq,q10,lkGet,dnil,fp73_3,g1,Proofs.Tryz.underlying67,cn67,Nat.reduceAdd,Nat.reduceLeDiff,BB4,Pos.inHp,Nat.reduceEqDiff,if_false,if_true,List.map_cons,List.map_nil,Pos.atSlot,BB6]
            refine ⟨H5.length,s,d.reads,L,_,_,_,_,rfl,g1 _,ref6 _,by omega,ser.b8,hmh,by omega,hrr,?_⟩
            simp only [BB1,BB5,Pos.isHp,BQ,dropLk,BB0,BB4,Nat.reduceLT,BB3,constDV,ne_eq,cd_f,movK,Nat.reduceBEq,q11,dlh33,hw0,q7,wi,takK,List.map_cons,q0,q3,q5,q6,List.map_nil,if_false]
            exact fin _ _ _ _ _ _ _ _ _ (hnil hws [] _ (Fr.app [] _ _) (by simp)) (dD_upd (d':={ d with over:=true }) hD rfl).symm (.inr ⟨_,_,rfl⟩)
          ·have hwp : 0 < d.ws.length:=List.length_pos_iff.2 hws
           have hw0 : (0 : Int) < (d.ws.length : Int):=by omega
           have hc : cap ≠ 0:=by have:=o4.1; omega
           have hrow : RowW H4 (.hsl id 3 0 d.ws.length cap) d.ws:=.inr ⟨id,0,cap,rfl,o4.row⟩
           have hrow6 : ∀ X,RowW (H5 ++ [X]) (.hsl id 3 0 d.ws.length cap) d.ws:=fun X => hrow.fr (f5.trans (Fr.app [] _ _)) fun id' z o l' c ev hm => by
            cases ev
            have h1:=hid hc
            rcases List.mem_append.1 hm with hm | hm
            ·rcases List.mem_append.1 hm with hm | hm
             ·have:=ser.is.at'.allLt _ hm; omega
             ·have h3 : id∈d.all:=by
               rcases List.mem_cons.1 hm with rfl | hm
               ·simp [DealS.all]
               ·rw [List.mem_singleton.1 hm]; simp [DealS.all]
              have:=on.at'.lt _ h3; omega
            ·simp at hm
           have hkk : ∀ w∈d.ws,w.key.length < 4000000000000000000:=fun w hw => by have:=(ok.ws.ok w hw).2.1; omega
           have hfn:=fold_neat (home_nodup (c:=97) ok.ws.nodup)
           have hbt:=ok.ws.batch 97
           rw [← hfn] at hbt
           have hhl : (homeW 97 d.ws).length < 10000:=by simp [homeW]; omega
           cases own
           all_goals
            simp only [BB1,BB5,Pos.isHp,BQ,dropLk,BB0,Nat.reduceLT,takK,BB3,BB2,movK,Nat.reduceBEq,q10,lkGet,dnil,fp73_3,g1,Proofs.Tryz.underlying67,cn67,Nat.reduceAdd,Nat.reduceLeDiff,BB4,Pos.inHp,Nat.reduceEqDiff,if_false,if_true,List.map_cons,List.map_nil,Pos.atSlot,BB6]
            refine ⟨H5.length,s,d.reads,L,_,_,_,_,rfl,g1 _,ref6 _,by omega,ser.b8,hmh,by omega,hrr,?_⟩
            simp only [BB1,BB5,Pos.isHp,BQ,dropLk,BB0,BB4,Nat.reduceLT,BB3,constDV,ne_eq,cd_f,movK,Nat.reduceBEq,q11,dlh33,hw0,cd_t,q5,BB2,Nat.reduceEqDiff,if_false,if_true,List.map_cons,List.map_nil]
            refine ⟨_,d.ws,rfl,hrow6 _,by omega,hkk,?_⟩
            simp only [BB1,BB5,Pos.isHp,BQ,dropLk,BB0,BB4,Nat.reduceLT,Nat.reduceBEq,BB3,Nat.reduceEqDiff,if_false,if_true,BB2,List.map_cons,List.map_nil]
            refine ⟨s,L,_,homeW 97 d.ws,rfl,ref6 _,by omega,hhl,hbt,?_⟩
            simp only [BB1,BB5,Pos.isHp,BQ,dropLk,BB0,Nat.reduceLT,movK,Nat.reduceBEq,BB3,q7,BB4,constDV,wi,takK,List.map_cons,q0,q3,q5,q6,List.map_nil,if_false]
            rw [hfn]
            exact fin _ _ _ _ _ _ _ _ _ (hcons hws [s] _ ((Fr.app [] _ _).trans (Fr.set _ s _)) (fun y hy => .inl (List.mem_singleton.1 hy)) (List.getElem?_set_self (by have:=ref5.lt; simp; omega))) (dD_upd (d':={ d with over:=true }) hD rfl).symm (.inr ⟨_,_,rfl⟩)
 ·obtain rfl : i = l.length:=by omega
  have e1 : ¬ (l.length : Int) < l.length:=by omega
  have hml:=ser.mi
  have hseq:=ser.is.good.seq
  have hlm:=ser.len
  have hlen2:=ser.is.good.len
  have hscan:=ser.st.scan m [] []
  simp only [BB0,BB1,Nat.reduceLT,movK,Nat.reduceBEq,BB3,dropLk,lkGet,dl54,List.length_map,BB4,BQ,e1,cd_f,BB2,BB5,Nat.reduceEqDiff,if_false,if_true,List.map_cons,List.map_nil]
  refine ⟨E,by rw [ser.is.hx],ser.is.at',?_⟩
  rw [hseq]
  simp only [BB1,BB5,Pos.isHp,BQ,dropLk,BB0,BB4,Nat.reduceLT,Nat.reduceBEq,BB3,constDV,Nat.reduceEqDiff,if_false,if_true,BB2,List.map_cons,List.map_nil]
  refine ⟨E,[],[],m,by rw [ser.is.hx],ser.is.at',by omega,ser.is.at'.sorted,fun H4 f4 => ?_⟩
  rw [hseq,Int.min_self,ser.is.es',hscan]
  have ref4:=ser.ref.fr f4 (by simp)
  have ref4':=ref4
  unfold RefAt at ref4'
  simp only [BB1,BB5,Pos.isHp,BQ,dropLk,BB0,Nat.reduceLT,movK,BB3,BB2,List.map_cons,List.map_nil,extK,Nat.reduceEqDiff,if_false,Nat.reduceBEq,Pos.atSlot,takK,lkGet,if_true,BB6,pt1,reduceCtorEq,BB4,constDV,gs2_tt,dnil,fp59_0,ref4',la57,addrPos,ia57,dl57,List.length_map]
  refine ⟨s,L.length,L,[],[],rfl,ref4,by omega,ser.b8,by omega,?_⟩
  rw [hlm]
  simp only [BB1,BB5,Pos.isHp,BQ,if_false,dropLk,BB0,Nat.reduceLT,Nat.reduceBEq,BB3,gs2_tt,BB4,Nat.reduceEqDiff,if_true,List.map_cons,List.map_nil]
  have hlt2 : (pairsR (mapR L m) [] [] 64).length < 100000:=by unfold pairsR; rw [List.length_take]; omega
  refine ⟨_,_,pairsR (mapR L m) [] [] 64,pairsR (mapR L m) [] [] 64,rfl,hlt2,hlt2,?_⟩
  rw [decide_eq_true rfl]
  simp only [BB1,BB5,Pos.isHp,BQ,dropLk,BB0,Nat.reduceLT,Nat.reduceBEq,BB3,constDV,if_true,takK,BB6,and_self]
end Go.Ab.En
