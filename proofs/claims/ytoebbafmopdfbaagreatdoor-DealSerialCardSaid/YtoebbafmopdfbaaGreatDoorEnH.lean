/- A part of the proof; no condition of its own. -/
import Derived.Test.YtoebbafmopdfbaaGreatDoorEnE
set_option linter.unusedSimpArgs false
set_option linter.unusedVariables false
/- EnF: The engine's laws: entries in memory between two keys. -/
namespace Go.Ab.En
open Go Go.Conc Go.RowKit Go.Ab
set_option maxRecDepth 10000
theorem box1 {s : Nat} {B : List (Nat × Nat × List DV)} (hB : B = []∨∃ g c,B = [(s,g,c)]) : ∃ g,bgen s B = g∧(∀ cs,bset s g cs B = [(s,g,cs)]):=by
 rcases hB with rfl | ⟨g,c,rfl⟩
 ·exact ⟨0,rfl,fun _ => rfl⟩
 ·exact ⟨g + 1,by simp [bgen,bget],fun _ => by simp [bset]⟩
theorem takeWhile_eq {α : Type} (p : α→Bool) (l : List α) (i : Nat) (h : i≤l.length) (h1 : ∀ j (h : j < l.length),j < i→p l[j] = true) (h2 : ∀ h : i < l.length,p l[i] = false) : l.takeWhile p = l.take i:=by
 have:=takeWhile_len p l i h h1 h2
 have hp:=List.prefix_iff_eq_take.1 (List.takeWhile_prefix (l:=l) p)
 rw [hp,this]
noncomputable def b102 : Code:=(Go.Proofs.Tryz.f102.body).getD .skip
theorem hb102 : Go.Proofs.Tryz.f102.body = some b102:=by kernel_rfl
def inR (tk : Str) (e : Ent) : Bool:=decide (tk = []) || Op.bytesLess e.key tk
def rangeE (es : List Ent) (fr tk : Str) : List Ent:=(es.drop (firstE es fr 1000000)).takeWhile (inR tk)
def SHRange : Spec:=fun H args K => ∃ (hp : Nat) (S : List Nat) (es : List Ent) (fr tk : Str),args = [.ptr hp 0,.str fr,.str tk]∧HeapAt H hp S es∧es.length < 100000000∧∀ H',Fr [] H H'→K H' (.sl true 4 (rowD (rangeE es fr tk)))
theorem appHRange {H : List HObj} {K : List HObj→DV→Prop} {hp : Nat} {S : List Nat} {es : List Ent} {fr tk : Str} (h1 : HeapAt H hp S es) (h2 : es.length < 100000000) (h : ∀ H',Fr [] H H'→K H' (.sl true 4 (rowD (rangeE es fr tk)))) : app SHRange H [.ptr hp 0,.str fr,.str tk] K:=⟨hp,S,es,fr,tk,rfl,h1,h2,h⟩
def MRg (H1 : List HObj) (id cap : Nat) (es : List Ent) (i0 : Nat) (tk : Str) (m : Nat) (st : St) : Prop:=∃ (j : Nat) (B : List (Nat × Nat × List DV)),j≤es.length - i0∧m = es.length - i0 - j∧(∀ k (h : k < (es.drop i0).length),k < j→inR tk (es.drop i0)[k] = true)∧(B = []∨∃ g c,B = [(9,g,c)]) ∧
 st = mk 40 [(2,.str tk),(7,.sl true 4 (rowD ((es.drop i0).take j))),(20,.hsl id 4 (i0 * 4) (es.length - i0) (cap - i0)),(21,.int .i64 ((es.length - i0 : Nat) : Int)),(22,.int .i64 j)] B H1 []
set_option maxHeartbeats 1000000 in
theorem rcHRange {I : Jd pp} (hI : ∀ w e,I.Ok w e) (hC : RC I 135 SCs) : RC I 102 SHRange:=by
 refine rc_of_code (isObj:=noO) (Γ:=envOf [(166,SFirst)]) (rs:=[6]) mixed hI (envOf_rc (by simpa using rcFirst hI hC)) Go.Proofs.Tryz.func102 (by kernel_rfl) hb102 Go.Proofs.Tryz.results102 Go.Proofs.Tryz.ntmps102 (by decide) ?_
 rintro H args K ⟨hp,S,es,fr,tk,rfl,⟨id,cap,b,h1,h2,h3,h4,h5,rfl,h7⟩,hl,hK⟩
 refine ⟨by simp,rfl,?_⟩
 unfold b102 Go.Proofs.Tryz.f102
 simp only [Option.getD_some,argSlots,vro_ptr,BQ,vro_str,Nat.reduceAdd,w_seq,w_region,mk_clean,tS_cons,g_none,hold_app,o_assign,take_const,constDV,Proofs.Tryz.underlying125,cn138,mk_put,dropLk,tS_nil,hold_app2,w_scope,w_label]
 refine w_draw [9,10] (.quiet 0 (.quiet 1 (.quiet 2 (.quiet 3 (.quiet 4 (.quiet 5 (.quiet 6 (.quiet 7 (.quiet 8 (.quiet 12 (.acts [(9,[12,3,2,1,0],.acts [(10,[12],.quiet 11 (.done))])]))))))))))) (by decide) (by kernel_rfl) ?_
 simp only [BZ1,BZ2,Nat.reduceLT,Nat.reduceBEq,dropLk,BZ3,dnil,fp189_0,BQ,h1,la125,constDV,if_true,List.map_cons,List.map_nil]
 refine appFirst es (.inr ⟨id,0,cap,rfl,h2.row⟩) h7 (by omega) fun H1 f1 => ?_
 have g1:=f1.get h1 (by simp)
 have hfi:=firstE_le es fr 1000000
 have hRe : rangeE es fr tk = (es.drop (firstE es fr 1000000)).takeWhile (inR tk):=rfl
 generalize firstE es fr 1000000 = i0 at hfi hRe
 have c0 : (0 : Int)≤i0:=by omega
 have c1 : (i0 : Int)≤es.length:=by omega
 have hdl : (es.drop i0).length = es.length - i0:=by simp
 simp only [BZ1,BZ2,Pos.isHp,BQ,BP,dropLk,BZ3,Nat.reduceLT,Nat.reduceBEq,constDV,g1,la125,fp189_0,dnil,dropLks,sch125,dbound,c0,c1,dlh125]
 refine w_loop [2,7,20,21,22] (MRg H1 id cap es i0 tk) (es.length - i0) ?_ ?_
 ·exact ⟨0,[],by omega,by omega,by intro k _ hk; omega,.inl rfl,by simp only [BZ3,BZ1,BZ2,mk_put?_some,mk_put?_none,List.map_cons,Nat.reduceBEq,List.map_nil,rowD,List.take_zero]; try rfl⟩
 ·rintro m st ⟨j,B,hj,rfl,hall,hB,rfl⟩
  obtain ⟨g,hb2,hb1⟩:=box1 hB
  by_cases e : j < es.length - i0
  ·have e1 : (j : Int) < ((es.length - i0 : Nat) : Int):=by omega
   have e2 : (0 : Int)≤j:=by omega
   have wi : IntKind.i64.wrap ((j : Int) + 1) = ((j + 1 : Nat) : Int):=by rw [wrap_i64 (by omega) (by omega)]; omega
   have hlt : i0 + j < es.length:=by omega
   obtain ⟨cs,k1,k2⟩:=h2.row.2 (by rintro rfl; simp at hlt)
   have k3:=f1.get k1 (by simp)
   obtain ⟨r,d1⟩:=hrow_cells k2 hlt
   obtain ⟨x,hx⟩ : ∃ x,es[i0 + j] = x:=⟨_,rfl⟩
   rw [hx,Nat.zero_add,Nat.add_mul] at d1
   simp only [Ent.cells,List.cons_append,List.nil_append] at d1
   have hx2 : (es.drop i0)[j]'(by omega) = x:=by rw [List.getElem_drop,hx]
   have ht : rowD ((es.drop i0).take j) ++ [.agg [.str x.key,.int .i64 x.seq,.bool x.del,.str x.val]] = rowD ((es.drop i0).take (j + 1)):=by
    rw [List.take_succ_eq_append_getElem (by omega),hx2]; simp [rowD,Ent.cells]
   have hrl : (rowD ((es.drop i0).take j)).length = j:=by simp [rowD]; omega
   have goOn : inR tk x = true→∀ k (h : k < (es.drop i0).length),k < j + 1→inR tk (es.drop i0)[k] = true:=by
    intro hin k h hk
    by_cases hkj : k = j
    ·subst hkj; rw [hx2]; exact hin
    ·exact hall k h (by omega)
   by_cases hto : tk = []
   ·subst hto
    simp only [w_seq,BZ1,BZ2,BQ,Nat.reduceLT,Nat.reduceBEq,e1,BP,dropLk,cd_t,ixh125,e2,k3,d1,la138,Nat.reduceLeDiff,List.map_cons,List.map_nil,al138,isO_eq,hb2,hb1,if_false,takK,if_true,Proofs.Tryz.underlying138,Nat.reduceAdd,cn138,Pos.inBox,movK,BZ3,constDV,ne_eq,gs2_ft,cd_f,Nat.reduceEqDiff,Pos.atSlot,bs125_1,apo125_125,lkGet,ap125_125,hrl,ht,wi]
    refine ⟨by omega,by omega,_,?_,j + 1,_,by omega,rfl,goOn (by simp [inR]),.inr ⟨_,_,rfl⟩,rfl⟩
    omega
   ·cases hb : Op.bytesLess x.key tk
    ·simp only [w_seq,BZ1,BZ2,BQ,Nat.reduceLT,Nat.reduceBEq,e1,BP,dropLk,cd_t,ixh125,e2,k3,d1,la138,Nat.reduceLeDiff,List.map_cons,List.map_nil,al138,isO_eq,hb2,hb1,if_false,takK,if_true,Proofs.Tryz.underlying138,Nat.reduceAdd,cn138,Pos.inBox,movK,BZ3,constDV,ne_eq,hto,gs2_tt,fl138_0,la9,hb,reduceCtorEq,wi,Nat.reduceEqDiff,lkGet,Pos.atSlot]
     have:=hK _ f1
     rw [hRe,takeWhile_eq (inR tk) (es.drop i0) j (by omega) hall (fun h => by rw [hx2]; simp [inR,hto,hb])] at this
     exact this
    ·simp only [w_seq,BZ1,BZ2,BQ,Nat.reduceLT,Nat.reduceBEq,e1,BP,dropLk,cd_t,ixh125,e2,k3,d1,la138,Nat.reduceLeDiff,List.map_cons,List.map_nil,al138,isO_eq,hb2,hb1,if_false,takK,if_true,Proofs.Tryz.underlying138,Nat.reduceAdd,cn138,Pos.inBox,movK,BZ3,constDV,ne_eq,hto,gs2_tt,fl138_0,la9,hb,cd_f,Nat.reduceEqDiff,Pos.atSlot,bs125_1,apo125_125,lkGet,ap125_125,hrl,ht,wi]
     refine ⟨by omega,by omega,_,?_,j + 1,_,by omega,rfl,goOn (by simp [inR,hb]),.inr ⟨_,_,rfl⟩,rfl⟩
     omega
  ·obtain rfl : j = es.length - i0:=by omega
   have e1 : ¬ ((es.length - i0 : Nat) : Int) < ((es.length - i0 : Nat) : Int):=by omega
   simp only [w_seq,BZ1,BZ2,BQ,Nat.reduceLT,Nat.reduceBEq,e1,BP,dropLk,cd_f,movK,Nat.reduceEqDiff,if_false,takK,lkGet,if_true,BZ3,Pos.atSlot]
   have:=hK _ f1
   rw [hRe,takeWhile_eq (inR tk) (es.drop i0) (es.length - i0) (by omega) hall (fun h => by omega)] at this
   exact this
end Go.Ab.En
/- EnH: The engine's laws: bytes sealed. -/
namespace Go.Ab.En
open Go Go.Conc Go.RowKit Go.Ab
set_option maxRecDepth 10000
def isY : ObjT:=fun t => t == 36
theorem isY_eq {t : TypeId} : isY t = (t == 36):=_root_.id rfl
noncomputable def b186 : Code:=(Go.Proofs.Tryz.f186.body).getD .skip
theorem hb186 : Go.Proofs.Tryz.f186.body = some b186:=by kernel_rfl
def byt (n : Int) : UInt8:=UInt8.ofNat (IntKind.u8.wrap n).toNat
def bytes4 (n : Int) : Str:=[byt (((n.fdiv 256).fdiv 256).fdiv 256),byt ((n.fdiv 256).fdiv 256),byt (n.fdiv 256),byt n]
def SB4 : Spec:=fun H args K => ∃ n : Int,args = [.int .u32 n]∧∀ H',Fr [] H H'→K H' (.str (bytes4 n))
theorem appB4 {H : List HObj} {K : List HObj→DV→Prop} {n : Int} (h : ∀ H',Fr [] H H'→K H' (.str (bytes4 n))) : app SB4 H [.int .u32 n] K:=⟨n,rfl,h⟩
theorem rcB4 {I : Jd pp} (hI : ∀ w e,I.Ok w e) : RC I 186 SB4:=by
 refine rc_of_code (isObj:=isY) (Γ:=envOf []) (rs:=[2]) mixed hI (envOf_rc (by simp)) Go.Proofs.Tryz.func186 (by kernel_rfl) hb186 Go.Proofs.Tryz.results186 Go.Proofs.Tryz.ntmps186 (by decide) ?_
 rintro H args K ⟨n,rfl,hK⟩
 refine ⟨by simp,rfl,?_⟩
 unfold b186 Go.Proofs.Tryz.f186
 simp only [Option.getD_some,argSlots,BZ2,w_seq,BZ1,constDV,dropLk,mk36,isY_eq,BQ,mkS_t,Int.reduceLE,Int.reduceToNat,Nat.reduceMul,Nat.reduceLeDiff,List.replicate_succ,List.replicate_zero,List.flatten_cons,List.flatten_nil,Nat.reduceLT,takK]
 refine w_unroll 5 ?_
 have w1 : IntKind.i64.wrap 2 = 2:=by decide
 simp only [lw_succ,w_seq,BZ1,Nat.reduceLT,movK,dropLk,BZ2,BQ,constDV,BZ3,Int.reduceLE,BP,cd_t,Nat.reduceBEq,cv243_5,ixh36,Int.reduceLT,Int.reduceToNat,Nat.reduceMul,takK,Proofs.Tryz.underlying5,cn5,Nat.reduceAdd,Nat.reduceLeDiff,ap_set0,Pos.inHp,b_shr8,Int.reduceSub,Int.reduceNeg,cd_f,cvh36_9,cvh_some,if_true,if_false]
 exact ⟨_,rfl,hK _ (Fr.app _ _ _)⟩
noncomputable def b139 : Code:=(Go.Proofs.Tryz.f139.body).getD .skip
theorem hb139 : Go.Proofs.Tryz.f139.body = some b139:=by kernel_rfl
def sealB (s : Str) : Str:=numB s.length ++ bytes4 (sumF s) ++ s
def SSeal : Spec:=fun H args K => ∃ s : Str,args = [.str s]∧s.length < 4000000000000000000∧∀ H',Fr [] H H'→K H' (.str (sealB s))
theorem appSeal {H : List HObj} {K : List HObj→DV→Prop} {s : Str} (h1 : s.length < 4000000000000000000) (h : ∀ H',Fr [] H H'→K H' (.str (sealB s))) : app SSeal H [.str s] K:=⟨s,rfl,h1,h⟩
theorem rcSeal {I : Jd pp} (hI : ∀ w e,I.Ok w e) : RC I 139 SSeal:=by
 refine rc_of_code (isObj:=noO) (Γ:=envOf [(137,SNum),(187,SSum),(186,SB4)]) (rs:=[2]) mixed hI (envOf_rc (by simpa using ⟨rcNum hI,rcSum hI,rcB4 hI⟩)) Go.Proofs.Tryz.func139 (by kernel_rfl) hb139 Go.Proofs.Tryz.results139 Go.Proofs.Tryz.ntmps139 (by decide) ?_
 rintro H args K ⟨s,rfl,hs,hK⟩
 refine ⟨by simp,rfl,?_⟩
 unfold b139 Go.Proofs.Tryz.f139
 simp only [Option.getD_some,argSlots,BZ2,w_seq,BZ1,constDV,dropLk,Nat.reduceLT,movK,Nat.reduceBEq,dl9,BP,Nat.reduceEqDiff,if_false,if_true,BQ,List.map_cons,List.map_nil]
 refine appNum (by omega) ?_
 simp only [BZ1,BZ2,Pos.isHp,BQ,BP,dropLk,Nat.reduceLT,movK,Nat.reduceBEq,Nat.reduceEqDiff,if_false,if_true,List.map_cons,List.map_nil]
 refine appSum (by omega) ?_
 simp only [BZ1,BZ2,Pos.isHp,BQ,BP,dropLk,Nat.reduceLT,Nat.reduceEqDiff,if_true,if_false,List.map_cons,List.map_nil]
 refine appB4 fun H' f => ?_
 have:=numB_len s.length
 have h4 : (bytes4 (sumF s)).length = 4:=rfl
 simp only [BZ1,BZ2,Pos.isHp,BQ,BP,dropLk,Nat.reduceLT,Nat.reduceBEq,s_add,movK,takK,if_false]
 refine ⟨by omega,by simp only [List.length_append]; omega,?_⟩
 have:=hK H' f
 simpa only [sealB,List.append_assoc] using this
end Go.Ab.En
