/- A part of the proof; no condition of its own. -/
import Derived.Test.YtoebbafmopdfbaaGreatDoorEnLayW
set_option linter.unusedSimpArgs false
set_option linter.unusedVariables false
/- EnA: The engine's laws: texts in order,writes,entries. -/
namespace Go.Ab.En
open Go Go.Conc Go.RowKit Go.Ab
set_option maxRecDepth 10000
abbrev Str:=List UInt8
def noO : ObjT:=fun _ => false
theorem isO_eq {t : TypeId} : noO t = false:=_root_.id rfl
def cmpS (a b : Str) : Int:=Lib.compareBytes a b
def SCs : Spec:=fun H args K => ∃ a b : Str,args = [.str a,.str b]∧K H (.int .i64 (cmpS a b))
theorem appCs {H : List HObj} {K : List HObj→DV→Prop} {a b : Str} (h : K H (.int .i64 (cmpS a b))) : app SCs H [.str a,.str b] K:=⟨a,b,rfl,h⟩
theorem rcCs : RC (loneJ pp) 135 SCs:=by
 refine rc_of_calls ⟨_,Go.Proofs.Tryz.func135,by kernel_rfl,by kernel_rfl⟩ fun N0 w0 d G w H args vs K hS hW hF => ?_
 obtain ⟨a,b,rfl,hK⟩:=hS
 have hsz : vs.size = 2:=hF.1.symm
 obtain ⟨x,y,rfl⟩ : ∃ x y,vs = #[x,y]:=by
  match vs,hsz with
  | ⟨[x,y]⟩,_ => exact ⟨x,y,rfl⟩
 have hx : x = .string ⟨a.toArray⟩:=SV.str (d:=0) (hF.2 0 _ _ rfl rfl)
 have hy : y = .string ⟨b.toArray⟩:=SV.str (d:=0) (hF.2 1 _ _ rfl rfl)
 subst hx hy
 refine (Go.Proofs.Tryz.strings_Compare _ _ w).mono fun e w' ⟨he,hw⟩ => ?_
 subst he hw
 exact ⟨_,rfl,G,H,.int .i64 _,hK,Ext.refl _ _ _,hW,SV.of_vp (.int _ _),sown_of_noOwn rfl⟩
noncomputable def b268 : Code:=(Go.Proofs.Tryz.f268.body).getD .skip
theorem hb268 : Go.Proofs.Tryz.f268.body = some b268:=by kernel_rfl
def SNaN : Spec:=fun H args K => ∃ a,args = [.int .i64 a]∧K H (.bool false)
theorem appNaN {H : List HObj} {K : List HObj→DV→Prop} {a : Int} (h : K H (.bool false)) : app SNaN H [.int .i64 a] K:=⟨a,rfl,h⟩
theorem rcNaN {I : Jd pp} (hI : ∀ w e,I.Ok w e) : RC I 268 SNaN:=by
 refine rc_of_code (isObj:=noO) (Γ:=envOf []) (rs:=[2]) mixed hI (envOf_rc (by simp)) Go.Proofs.Tryz.func268 (by kernel_rfl) hb268 Go.Proofs.Tryz.results268 Go.Proofs.Tryz.ntmps268 (by decide) ?_
 rintro H args K ⟨a,rfl,hK⟩
 refine ⟨by simp,rfl,?_⟩
 unfold b268 Go.Proofs.Tryz.f268
 simp only [Option.getD_some,argSlots,BZ2,w_seq,BZ1,constDV,dropLk,Nat.reduceLT,movK,Nat.reduceBEq,BQ,b_neq,ne_eq,BP,takK,if_false]
 simpa using hK
noncomputable def b222 : Code:=(Go.Proofs.Tryz.f222.body).getD .skip
theorem hb222 : Go.Proofs.Tryz.f222.body = some b222:=by kernel_rfl
def cmpI (a b : Int) : Int:=if a < b then -1 else if b < a then 1 else 0
def SCmp : Spec:=fun H args K => ∃ a b,args = [.int .i64 a,.int .i64 b]∧K H (.int .i64 (cmpI a b))
theorem appCmp {H : List HObj} {K : List HObj→DV→Prop} {a b : Int} (h : K H (.int .i64 (cmpI a b))) : app SCmp H [.int .i64 a,.int .i64 b] K:=⟨a,b,rfl,h⟩
theorem rcCmp {I : Jd pp} (hI : ∀ w e,I.Ok w e) : RC I 222 SCmp:=by
 refine rc_of_code (isObj:=noO) (Γ:=envOf [(268,SNaN)]) (rs:=[4]) mixed hI (envOf_rc (by simpa using rcNaN hI)) Go.Proofs.Tryz.func222 (by kernel_rfl) hb222 Go.Proofs.Tryz.results222 Go.Proofs.Tryz.ntmps222 (by decide) ?_
 rintro H args K ⟨a,b,rfl,hK⟩
 refine ⟨by simp,rfl,?_⟩
 unfold b222 Go.Proofs.Tryz.f222
 simp only [Int.reduceNeg,Option.getD_some,argSlots,BZ2,BQ,w_seq,BZ1,constDV,dropLk,Nat.reduceLT,movK,Nat.reduceBEq,if_true,List.map_cons,List.map_nil]
 refine appNaN ?_
 simp only [Int.reduceNeg,BZ1,BZ2,Pos.isHp,BQ,BP,dropLk,Nat.reduceLT,takK,w_seq,movK,Nat.reduceBEq,if_true,List.map_cons,List.map_nil]
 refine appNaN ?_
 simp only [Int.reduceNeg,BZ1,BZ2,Pos.isHp,BQ,BP,dropLk,Nat.reduceLT,takK,w_seq,movK,Nat.reduceBEq,cd,constDV,b_gtr,if_false]
 refine ⟨fun h => ?_,fun h => ⟨fun h2 => ?_,fun h2 => ?_⟩⟩
 ·simpa [cmpI,of_decide_eq_true h] using hK
 ·simpa [cmpI,of_decide_eq_false h,of_decide_eq_true h2] using hK
 ·simpa [cmpI,of_decide_eq_false h,of_decide_eq_false h2] using hK
noncomputable def b221 : Code:=(Go.Proofs.Tryz.f221.body).getD .skip
theorem hb221 : Go.Proofs.Tryz.f221.body = some b221:=by kernel_rfl
def SOr : Spec:=fun H args K => ∃ own a b,args = [.sl own 1 [.int .i64 a,.int .i64 b]]∧K H (.int .i64 (if a = 0 then b else a))
theorem appOr {H : List HObj} {K : List HObj→DV→Prop} {own : Bool} {a b : Int} (h : K H (.int .i64 (if a = 0 then b else a))) : app SOr H [.sl own 1 [.int .i64 a,.int .i64 b]] K:=⟨own,a,b,rfl,h⟩
theorem rcOr {I : Jd pp} (hI : ∀ w e,I.Ok w e) : RC I 221 SOr:=by
 refine rc_of_code (isObj:=noO) (Γ:=envOf []) (rs:=[2]) mixed hI (envOf_rc (by simp)) Go.Proofs.Tryz.func221 (by kernel_rfl) hb221 Go.Proofs.Tryz.results221 Go.Proofs.Tryz.ntmps221 (by decide) ?_
 rintro H args K ⟨own,a,b,rfl,hK⟩
 refine ⟨by simp,rfl,?_⟩
 unfold b221 Go.Proofs.Tryz.f221
 simp only [Option.getD_some,argSlots,BZ2,w_seq,BZ1,constDV,dropLk,Nat.reduceLT,movK,Nat.reduceBEq,lkGet,dl99,BQ,Nat.reduceAdd,nc2,BP]
 refine w_unroll 3 ?_
 simp only [lw_succ,w_seq,BZ1,BZ2,BQ,Nat.reduceLT,Nat.reduceBEq,Int.reduceLT,BP,dropLk,cd,ix99,Int.reduceLE,Nat.reduceAdd,BZ3,Int.reduceToNat,la3,takK,movK,ne_eq,constDV,Int.reduceAdd,Int.reduceNeg,if_true,if_false]
 by_cases h : a = 0 <;> by_cases h2 : b = 0 <;> simp [h,h2] at hK ⊢ <;> exact hK
structure Wr where
 key : Str
 del : Bool
 val : Str
 deriving DecidableEq
def Wr.cells (w : Wr) : List DV:=[.str w.key,.bool w.del,.str w.val]
structure Ent where
 key : Str
 seq : Int
 del : Bool
 val : Str
 deriving DecidableEq
def Ent.cells (e : Ent) : List DV:=[.str e.key,.int .i64 e.seq,.bool e.del,.str e.val]
noncomputable def b136 : Code:=(Go.Proofs.Tryz.f136.body).getD .skip
theorem hb136 : Go.Proofs.Tryz.f136.body = some b136:=by kernel_rfl
def isWr (w : Wr) : Bool:=decide (1≤(w.key.length : Int)) && (decide ((w.key.length : Int)≤13) && (decide ((w.val.length : Int)≤24) && (!w.del || decide (w.val = []))))
def SIw : Spec:=fun H args K => ∃ w : Wr,args = [.agg w.cells]∧K H (.bool (isWr w))
theorem appIw {H : List HObj} {K : List HObj→DV→Prop} {k v : Str} {d : Bool} (h : K H (.bool (isWr ⟨k,d,v⟩))) : app SIw H [.agg [.str k,.bool d,.str v]] K:=⟨⟨k,d,v⟩,rfl,h⟩
theorem rcIw {I : Jd pp} (hI : ∀ w e,I.Ok w e) : RC I 136 SIw:=by
 refine rc_of_code (isObj:=noO) (Γ:=envOf []) (rs:=[2]) mixed hI (envOf_rc (by simp)) Go.Proofs.Tryz.func136 (by kernel_rfl) hb136 Go.Proofs.Tryz.results136 Go.Proofs.Tryz.ntmps136 (by decide) ?_
 rintro H args K ⟨⟨k,d,v⟩,rfl,hK⟩
 refine ⟨by simp,rfl,?_⟩
 unfold b136 Go.Proofs.Tryz.f136
 simp only [Option.getD_some,argSlots,Wr.cells,BZ2,List.map_cons,List.map_nil,w_seq,BZ1,BZ3,Nat.reduceLT,takK,BQ,isO_eq,dropLk,bgen_eq,if_false,constDV,Nat.reduceBEq,fl32_0,BP,if_true,la9,dl9,movK,gs2_bool,fl32_2,fl32_1,la4]
 refine ⟨fun h1 => ⟨fun h2 => ⟨fun h3 => ⟨fun h4 => ?_,fun h4 => ?_⟩,fun h3 => ?_⟩,fun h2 => ?_⟩,fun h1 => ?_⟩ <;> first | exact hK | (simp only [isWr, *,Bool.true_and,Bool.false_and,Bool.and_true,Bool.and_false,Bool.or_true,Bool.or_false,Bool.true_or,Bool.false_or,Bool.not_true,Bool.not_false,if_true,if_false] at hK; exact hK)
noncomputable def b177 : Code:=(Go.Proofs.Tryz.f177.body).getD .skip
theorem hb177 : Go.Proofs.Tryz.f177.body = some b177:=by kernel_rfl
def isEnt (e : Ent) : Bool:=decide (1≤e.seq) && (decide (e.seq≤1000000) && isWr ⟨e.key,e.del,e.val⟩)
def SIe : Spec:=fun H args K => ∃ e : Ent,args = [.agg e.cells]∧K H (.bool (isEnt e))
theorem appIe {H : List HObj} {K : List HObj→DV→Prop} {k v : Str} {n : Int} {d : Bool} (h : K H (.bool (isEnt ⟨k,n,d,v⟩))) : app SIe H [.agg [.str k,.int .i64 n,.bool d,.str v]] K:=⟨⟨k,n,d,v⟩,rfl,h⟩
theorem rcIe {I : Jd pp} (hI : ∀ w e,I.Ok w e) : RC I 177 SIe:=by
 refine rc_of_code (isObj:=noO) (Γ:=envOf [(136,SIw)]) (rs:=[2]) mixed hI (envOf_rc (by simpa using rcIw hI)) Go.Proofs.Tryz.func177 (by kernel_rfl) hb177 Go.Proofs.Tryz.results177 Go.Proofs.Tryz.ntmps177 (by decide) ?_
 rintro H args K ⟨⟨k,n,d,v⟩,rfl,hK⟩
 refine ⟨by simp,rfl,?_⟩
 unfold b177 Go.Proofs.Tryz.f177
 simp only [Option.getD_some,argSlots,Ent.cells,BZ2,List.map_cons,List.map_nil,w_seq,BZ1,BZ3,Nat.reduceLT,takK,BQ,isO_eq,dropLk,bgen_eq,if_false,constDV,Nat.reduceBEq,fl138_1,BP,if_true,la3,movK,gs2_bool,fl138_0,la9,fl138_2,la4,fl138_3,bd32,bd32_0,Nat.reduceAdd,Nat.reduceLeDiff,bd32_1,bd32_2,vfla_tup,vro_tup,vcl_tup,vsca_tup,vro1_tup]
 refine ⟨fun h1 => ⟨fun h2 => ?_,fun h2 => ?_⟩,fun h1 => ?_⟩
 ·refine appIw ?_
  simp only [BZ1,BZ2,Pos.isHp,BQ,BP,dropLk,o_pick,Nat.reduceLT,Nat.reduceBEq,constDV,if_true,takK]
  first | exact hK | (simp only [isEnt, *,Bool.true_and,Bool.false_and,Bool.and_true,Bool.and_false,Bool.or_true,Bool.or_false,Bool.true_or,Bool.false_or,Bool.not_true,Bool.not_false,if_true,if_false] at hK; exact hK)
 ·first | exact hK | (simp only [isEnt, *,Bool.true_and,Bool.false_and,Bool.and_true,Bool.and_false,Bool.or_true,Bool.or_false,Bool.true_or,Bool.false_or,Bool.not_true,Bool.not_false,if_true,if_false] at hK; exact hK)
 ·first | exact hK | (simp only [isEnt, *,Bool.true_and,Bool.false_and,Bool.and_true,Bool.and_false,Bool.or_true,Bool.or_false,Bool.true_or,Bool.false_or,Bool.not_true,Bool.not_false,if_true,if_false] at hK; exact hK)
noncomputable def b165 : Code:=(Go.Proofs.Tryz.f165.body).getD .skip
theorem hb165 : Go.Proofs.Tryz.f165.body = some b165:=by kernel_rfl
def cmpE (a b : Ent) : Int:=if cmpS a.key b.key = 0 then cmpI b.seq a.seq else cmpS a.key b.key
def SCe : Spec:=fun H args K => ∃ a b : Ent,args = [.agg a.cells,.agg b.cells]∧K H (.int .i64 (cmpE a b))
theorem appCe {H : List HObj} {K : List HObj→DV→Prop} {a b : Ent} (h : K H (.int .i64 (cmpE a b))) : app SCe H [.agg [.str a.key,.int .i64 a.seq,.bool a.del,.str a.val],.agg [.str b.key,.int .i64 b.seq,.bool b.del,.str b.val]] K:=⟨a,b,rfl,h⟩
theorem rcCe {I : Jd pp} (hI : ∀ w e,I.Ok w e) (hC : RC I 135 SCs) : RC I 165 SCe:=by
 refine rc_of_code (isObj:=noO) (Γ:=envOf [(135,SCs),(222,SCmp),(221,SOr)]) (rs:=[4]) mixed hI (envOf_rc (by simpa using ⟨hC,rcCmp hI,rcOr hI⟩)) Go.Proofs.Tryz.func165 (by kernel_rfl) hb165 Go.Proofs.Tryz.results165 Go.Proofs.Tryz.ntmps165 (by decide) ?_
 rintro H args K ⟨a,b,rfl,hK⟩
 refine ⟨by simp,rfl,?_⟩
 unfold b165 Go.Proofs.Tryz.f165
 simp only [Option.getD_some,argSlots,Ent.cells,BZ2,List.map_cons,List.map_nil,BQ,w_seq,BZ1,o_box,Nat.reduceLT,takK,isO_eq,dropLk,bgen_eq,if_false,Nat.reduceBEq,Nat.reduceEqDiff,constDV]
 refine w_draw [4,9,10,11,12] (.quiet 0 (.quiet 1 (.quiet 2 (.quiet 3 (.quiet 5 (.quiet 6 (.quiet 7 (.quiet 8 (.acts [(4,[8,7,6,5],.acts [(9,[],.acts [(10,[],.acts [(11,[],.acts [(12,[],.done)])])])])]))))))))) (by decide) (by kernel_rfl) ?_
 simp only [BZ1,BZ2,BZ3,Nat.reduceLT,Nat.reduceBEq,fl138_0,BQ,dropLk,Nat.reduceEqDiff,if_false,if_true,la9,fl138_1,la3,List.map_cons,List.map_nil]
 refine appCs ?_
 simp only [BZ1,BZ2,Pos.isHp,BQ,BP,dropLk,BZ3,Nat.reduceLT,Nat.reduceBEq,Nat.reduceEqDiff,if_false,if_true,la3,fl138_1,dropLks,List.map_cons,List.map_nil]
 refine appCmp ?_
 simp only [BZ1,BZ2,Pos.isHp,BQ,BP,dropLk,dropLks,bs99_2,isO_eq,Nat.reduceLT,Nat.reduceBEq,bsl_f,Nat.reduceEqDiff,if_true,if_false,List.map_cons,List.map_nil]
 refine appOr ?_
 simp only [BZ1,BZ2,Pos.isHp,List.filter_nil,mk_put?_some,dropLk,dropLks,Nat.reduceLT,takK,rp_done,true_and,and_true]
 exact hK
noncomputable def b164 : Code:=(Go.Proofs.Tryz.f164.body).getD .skip
theorem hb164 : Go.Proofs.Tryz.f164.body = some b164:=by kernel_rfl
def ltE (a b : Ent) : Bool:=decide (cmpE a b < 0)
def SLe : Spec:=fun H args K => ∃ a b : Ent,args = [.agg a.cells,.agg b.cells]∧K H (.bool (ltE a b))
theorem appLe {H : List HObj} {K : List HObj→DV→Prop} {k v k' v' : Str} {n n' : Int} {d d' : Bool} (h : K H (.bool (ltE ⟨k,n,d,v⟩ ⟨k',n',d',v'⟩))) : app SLe H [.agg [.str k,.int .i64 n,.bool d,.str v],.agg [.str k',.int .i64 n',.bool d',.str v']] K:=⟨⟨k,n,d,v⟩,⟨k',n',d',v'⟩,rfl,h⟩
theorem rcLe {I : Jd pp} (hI : ∀ w e,I.Ok w e) (hC : RC I 135 SCs) : RC I 164 SLe:=by
 refine rc_of_code (isObj:=noO) (Γ:=envOf [(165,SCe)]) (rs:=[4]) mixed hI (envOf_rc (by simpa using rcCe hI hC)) Go.Proofs.Tryz.func164 (by kernel_rfl) hb164 Go.Proofs.Tryz.results164 Go.Proofs.Tryz.ntmps164 (by decide) ?_
 rintro H args K ⟨a,b,rfl,hK⟩
 refine ⟨by simp,rfl,?_⟩
 unfold b164 Go.Proofs.Tryz.f164
 simp only [Option.getD_some,argSlots,Ent.cells,BZ2,List.map_cons,List.map_nil,BQ,w_seq,BZ1,o_box,Nat.reduceLT,takK,isO_eq,dropLk,bgen_eq,if_false,Nat.reduceBEq,Nat.reduceEqDiff,constDV,if_true,la138,Nat.reduceAdd,Nat.reduceLeDiff]
 refine appCe ?_
 simp only [BZ1,BZ2,Pos.isHp,BQ,BP,dropLk,Nat.reduceLT,constDV,takK,if_false]
 exact hK
end Go.Ab.En
