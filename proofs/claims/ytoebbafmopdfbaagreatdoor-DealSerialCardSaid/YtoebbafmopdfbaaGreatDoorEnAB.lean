/- A part of the proof; no condition of its own. -/
import Derived.Test.YtoebbafmopdfbaaGreatDoorEnW
set_option linter.unusedSimpArgs false
set_option linter.unusedVariables false
/- EnAA: The engine's laws: no table is read. -/
namespace Go.Ab.En
open Go Go.Conc Go.RowKit Go.Ab
set_option maxRecDepth 10000
noncomputable def b99 : Code:=(Go.Proofs.Tryz.f99.body).getD .skip
theorem hb99 : Go.Proofs.Tryz.f99.body = some b99:=by kernel_rfl
def SFst0 : Spec:=fun H args K => ∃ (own : Bool),args = [.sl own 1 []]∧K H (.int .i64 0)
theorem rcFst0 {I : Jd pp} (hI : ∀ w e,I.Ok w e) : RC I 73 SFst0:=by
 refine rc_of_code (isObj:=noO) (Γ:=envOf []) (rs:=[2]) mixed hI (envOf_rc (by simp)) Go.Proofs.Tryz.func73 (by kernel_rfl) hb73 Go.Proofs.Tryz.results73 Go.Proofs.Tryz.ntmps73 (by decide) ?_
 rintro H args K ⟨own,rfl,hK⟩
 refine ⟨by simp,rfl,?_⟩
 unfold b73 Go.Proofs.Tryz.f73
 simp only [Option.getD_some,argSlots,BZ2,w_seq,BZ1,constDV,dropLk,Nat.reduceLT,movK,Nat.reduceBEq,lkGet,dl202,BQ,nc0,BP]
 refine w_unroll 1 ?_
 simp only [lw_succ,w_seq,BZ1,BZ2,BQ,Nat.reduceLT,Nat.reduceBEq,Int.reduceLT,BP,dropLk,cd_f,constDV,if_true,if_false]
 exact hK
theorem appFst0 {H : List HObj} {K : List HObj→DV→Prop} {own : Bool} (h : K H (.int .i64 0)) : app SFst0 H [.sl own 1 []] K:=⟨own,rfl,h⟩
def SRows0h : Spec:=fun H args K => ∃ (x : Nat) (a b : Str) (own : Bool),args = [.ptr x 0,.str a,.str b,.sl own 5 []]∧∀ H' id,Fr [] H H'→K H' (.tup [.hsl id 1 0 0 0,.int .i64 0])
set_option maxHeartbeats 4000000 in
theorem rcRows0h {I : Jd pp} (hI : ∀ w e,I.Ok w e) : RC I 99 SRows0h:=by
 refine rc_of_code (isObj:=isR) (Γ:=envOf [(73,SFst0)]) (rs:=[8,9]) mixed hI (envOf_rc (by simpa using rcFst0 hI)) Go.Proofs.Tryz.func99 (by kernel_rfl) hb99 Go.Proofs.Tryz.results99 Go.Proofs.Tryz.ntmps99 (by decide) ?_
 rintro H args K ⟨x,a,b,own,rfl,hK⟩
 refine ⟨by simp,rfl,?_⟩
 unfold b99 Go.Proofs.Tryz.f99
 simp only [Option.getD_some,argSlots,BZ2,BQ,Nat.reduceAdd,w_seq,BZ1,o_box,Nat.reduceLT,takK,BP,isR_eq,Nat.reduceBEq,dropLk,bgen_eq,if_false,Nat.reduceEqDiff,constDV,Proofs.Tryz.underlying154,cn125]
 refine w_draw [0,1,2,3,4,5] (.acts [(0,[],.acts [(1,[],.acts [(2,[],.acts [(3,[],.acts [(4,[],.acts [(5,[],.done)])])]),(3,[],.acts [(2,[],.acts [(4,[],.acts [(5,[],.done)])])])]),(2,[],.acts [(1,[],.acts [(3,[],.acts [(4,[],.acts [(5,[],.done)])])]),(3,[],.acts [(1,[],.acts [(4,[],.acts [(5,[],.done)])]),(4,[],.acts [(1,[],.acts [(5,[],.done)])])])]),(3,[],.acts [(1,[],.acts [(2,[],.acts [(4,[],.acts [(5,[],.done)])])]),(2,[],.acts [(1,[],.acts [(4,[],.acts [(5,[],.done)])]),(4,[],.acts [(1,[],.acts [(5,[],.done)])])])])]),(1,[],.acts [(0,[],.acts [(2,[],.acts [(3,[],.acts [(4,[],.acts [(5,[],.done)])])]),(3,[],.acts [(2,[],.acts [(4,[],.acts [(5,[],.done)])])])]),(2,[],.acts [(0,[],.acts [(3,[],.acts [(4,[],.acts [(5,[],.done)])])]),(3,[],.acts [(0,[],.acts [(4,[],.acts [(5,[],.done)])])])]),(3,[],.acts [(0,[],.acts [(2,[],.acts [(4,[],.acts [(5,[],.done)])])]),(2,[],.acts [(0,[],.acts [(4,[],.acts [(5,[],.done)])])])])]),(2,[],.acts [(0,[],.acts [(1,[],.acts [(3,[],.acts [(4,[],.acts [(5,[],.done)])])]),(3,[],.acts [(1,[],.acts [(4,[],.acts [(5,[],.done)])]),(4,[],.acts [(1,[],.acts [(5,[],.done)])])])]),(1,[],.acts [(0,[],.acts [(3,[],.acts [(4,[],.acts [(5,[],.done)])])]),(3,[],.acts [(0,[],.acts [(4,[],.acts [(5,[],.done)])])])]),(3,[],.acts [(0,[],.acts [(1,[],.acts [(4,[],.acts [(5,[],.done)])]),(4,[],.acts [(1,[],.acts [(5,[],.done)])])]),(1,[],.acts [(0,[],.acts [(4,[],.acts [(5,[],.done)])])])])]),(3,[],.acts [(0,[],.acts [(1,[],.acts [(2,[],.acts [(4,[],.acts [(5,[],.done)])])]),(2,[],.acts [(1,[],.acts [(4,[],.acts [(5,[],.done)])]),(4,[],.acts [(1,[],.acts [(5,[],.done)])])])]),(1,[],.acts [(0,[],.acts [(2,[],.acts [(4,[],.acts [(5,[],.done)])])]),(2,[],.acts [(0,[],.acts [(4,[],.acts [(5,[],.done)])])])]),(2,[],.acts [(0,[],.acts [(1,[],.acts [(4,[],.acts [(5,[],.done)])]),(4,[],.acts [(1,[],.acts [(5,[],.done)])])]),(1,[],.acts [(0,[],.acts [(4,[],.acts [(5,[],.done)])])])])])]) (by decide) (by kernel_rfl) ?_
 simp only [BZ1,BZ2,mc217,constDV,mkC_int,Int.reduceLE,Int.reduceToNat,Nat.mul_zero,Nat.reduceLeDiff,dropLk,dropLks,mc218,al217,isR_eq,Nat.reduceBEq,BQ,vcl_any,bgen_eq,Nat.reduceEqDiff,if_false,al218,Nat.reduceLT,takK,vroA_any,if_true,Proofs.Tryz.underlying217,cn217,vsca_any,Pos.inBox,Proofs.Tryz.underlying218,cn218,BZ3,w_seq,movK,lkGet,dl131,BP]
 repeat' apply And.intro
 all_goals (refine w_unroll 1 ?_; simp only [lw_succ,w_seq,BZ1,BZ2,BQ,Nat.reduceLT,Nat.reduceBEq,Int.reduceLT,BP,dropLk,cd_f,movK,lkGet,dl131,nc0,mk154,isR_eq,mkS_t,Int.reduceLE,Int.reduceToNat,Nat.reduceLeDiff,List.replicate_zero,takK,mk202,mkS_f,if_true,if_false])
 all_goals (first | (refine w_unroll 1 ?_; simp only [lw_succ,w_seq,BZ1,Nat.reduceLT,movK,dropLk,BZ2,BQ,constDV,b_gtr,Int.reduceLT,BP,cd_f,Nat.reduceBEq,Nat.reduceEqDiff,if_false,if_true,List.map_cons,List.map_nil]) | skip)
 all_goals (first | (refine appFst0 ?_; simp only [BZ1,BZ2,Pos.isHp,BQ,if_true,BP,dropLk,Nat.reduceBEq,Pos.atSlot,if_false,Nat.reduceLT,takK,ret_two]) | skip)
 all_goals (first | exact hK _ _ (Fr.app [] H _) | exact hK _ _ (Fr.refl _ _) | skip)
end Go.Ab.En
/- EnAB: The engine's laws: a scan where no table is. -/
namespace Go.Ab.En
open Go Go.Conc Go.RowKit Go.Ab
set_option maxRecDepth 10000
theorem pt1 {o : Bool} {c : Nat} {xs : List DV} {r : List DV} : DV.part 1 0 (.tup (.sl o c xs :: r)) = some (.sl o c xs):=_root_.id rfl
theorem appRows0 {H : List HObj} {K : List HObj→DV→Prop} {x : Nat} {a b : Str} {own : Bool} (h : ∀ H' id,Fr [] H H'→K H' (.tup [.hsl id 1 0 0 0,.int .i64 0])) : app SRows0h H [.ptr x 0,.str a,.str b,.sl own 5 []] K:=⟨x,a,b,own,rfl,h⟩
noncomputable def b42 : Code:=(Go.Proofs.Tryz.f42.body).getD .skip
theorem hb42 : Go.Proofs.Tryz.f42.body = some b42:=by kernel_rfl
def scanE (es : List Ent) (a b : Str) (n : Int) : List Pr:=((visE (rangeE es a b) n).take 64).map fun e => ⟨e.key,e.val⟩
def SScan : Spec:=fun H args K => ∃ (E : EngS) (a b : Str) (n : Int),args = [.ptr E.x 0,.str a,.str b,.int .i64 n]∧E.At H∧E.es.length < 100000000∧Sorted E.es∧∀ H',Fr [] H H'→K H' (.tup [.sl true 2 ((scanE E.es a b (min n E.seq)).map prD),.int .i64 0])
theorem vis_len (es : List Ent) (n : Int) : (visE es n).length≤es.length :=
 Nat.le_trans (List.length_filterMap_le _ _) (gE_len es.length es).1
theorem range_sub (es : List Ent) (a b : Str) : (rangeE es a b).Sublist es:=(List.takeWhile_sublist _).trans (List.drop_sublist _ _)
def prE (e : Ent) : Pr:=⟨e.key,e.val⟩
def MSc (H : List HObj) (l : List Ent) (m : Nat) (st : St) : Prop:=∃ (i : Nat) (B : List (Nat × Nat × List DV)),i≤l.length∧m = l.length - i∧(B = []∨∃ g c,B = [(15,g,c)]) ∧
 st = mk 76 [(13,.sl true 2 (((l.take i).take 64).map fun e => prD (prE e))),(57,.sl true 4 (rowD l)),(58,.int .i64 l.length),(59,.int .i64 i)] B H []
set_option maxHeartbeats 4000000 in
theorem rcScan {I : Jd pp} (hI : ∀ w e,I.Ok w e) (hC : RC I 135 SCs) (hB : RC I 100 SBet0) (hR : RC I 102 SHRange) (hV : RC I 103 SVis) : RC I 42 SScan:=by
 refine rc_of_code (isObj:=isR) (Γ:=envOf [(100,SBet0),(99,SRows0h),(102,SHRange),(101,SRows1),(103,SVis)]) (rs:=[8,9]) mixed hI (envOf_rc (by simpa using ⟨hB,rcRows0h hI,hR,rcRows1 hI hC,hV⟩)) Go.Proofs.Tryz.func42 (by kernel_rfl) hb42 Go.Proofs.Tryz.results42 Go.Proofs.Tryz.ntmps42 (by decide) ?_
 rintro H args K ⟨E,a,b,n,rfl,h1,hl,hs,hK⟩
 refine ⟨by simp,rfl,?_⟩
 unfold b42 Go.Proofs.Tryz.f42
 simp only [BQ,Option.getD_some,argSlots,BZ2,Nat.reduceAdd,w_seq,BZ1,constDV,Proofs.Tryz.underlying64,cn96,dropLk,Nat.reduceLT,movK,Nat.reduceBEq,dnil,BP,fp114_1,h1.top,la106,lo_ptr,Nat.reduceEqDiff,if_false,if_true,List.map_cons,List.map_nil]
 refine appBet0 h1.sheet ?_
 simp only [BZ1,BZ2,Pos.isHp,BQ,BP,dropLk,Nat.reduceLT,Nat.reduceBEq,Nat.reduceEqDiff,if_false,if_true,List.map_cons,List.map_nil]
 refine appRows0 fun H0 id f0 => ?_
 have h2:=h1.fr0 f0
 have pt : DV.part 1 0 (.tup [.hsl id 1 0 0 0,.int .i64 0]) = some (.hsl id 1 0 0 0):=_root_.id rfl
 simp only [BZ1,BZ2,Pos.isHp,BQ,BP,dropLk,Nat.reduceLT,movK,BZ3,List.map_cons,List.map_nil,extK,Nat.reduceBEq,takK,w_seq,constDV,ne_eq,cd_f,dnil,fp114_3,h2.top,la110,Nat.reduceEqDiff,if_false,if_true]
 refine appHRange h2.heap hl fun H1 f1 => ?_
 simp only [BZ1,BZ2,Pos.isHp,BQ,BP,dropLk,bs154_1,isR_eq,Nat.reduceLT,BZ3,List.map_cons,List.map_nil,aph154_154,takK,Nat.reduceBEq,Nat.reduceEqDiff,if_false,if_true,ne_eq,srcC_h Go.Proofs.Tryz.underlying154,Nat.reduceMul,Nat.reduceLeDiff,reduceCtorEq]
 intro q hq
 have hrl:=(range_sub E.es a b).length_le
 have h3:=h2.fr0 f1
 refine ⟨_,rangeE E.es a b,rfl,.inr ⟨_,q,List.replicate ((q - 1) * 1) .undef,rfl,hq,by simp⟩,hs.sublist (range_sub E.es a b),by omega,fun H2 f2 => ?_⟩
 have h4:=h3.fr0 (Fr.app [] _ _) |>.fr0 f2
 have hm : (if (E.seq : Int) < n then (E.seq : Int) else n) = min n E.seq:=by split <;> omega
 simp only [BZ1,BQ,List.map_cons,BZ2,List.map_nil,Pos.isHp,BP,dropLk,Nat.reduceLT,movK,BZ3,extK,Nat.reduceEqDiff,if_false,Nat.reduceBEq,Pos.atSlot,takK,lkGet,if_true,pt1,reduceCtorEq,w_seq,constDV,ne_eq,cd_f,Proofs.Tryz.underlying64,cn96,dnil,fp114_4,h4.top,la3,hm]
 refine appVis (hs.sublist (range_sub E.es a b)) (by omega) ?_
 have hvl:=vis_len (rangeE E.es a b) (min n E.seq)
 generalize hL : visE (rangeE E.es a b) (min n E.seq) = L at hvl
 have rl : (rowD L).length = L.length:=by simp [rowD]
 simp only [hold_app2,mk_called,Pos.isHp,BQ,BP,dropLk,hold_app,tS_cons,g_none,o_len,Nat.reduceLT,rho_tmp,look_hit,dl125,rl,o_move,move_const,constDV,vroA_int,tS_nil,w_block]
 refine w_loop [13,57,58,59] (MSc H2 L) L.length ?_ ?_
 ·exact ⟨0,[],by omega,by omega,.inl rfl,by simp only [BZ3,BZ1,BZ2,mk_put?_some,mk_put?_none,List.map_cons,Nat.reduceBEq,List.map_nil,List.take_zero,List.take_nil]; try rfl⟩
 ·rintro m st ⟨i,B,hi,rfl,hB,rfl⟩
  obtain ⟨g,hb2,hb1⟩:=box1 hB
  by_cases e : i < L.length
  ·have e1 : (i : Int) < L.length:=by omega
   have e2 : (0 : Int)≤i:=by omega
   have wi : IntKind.i64.wrap ((i : Int) + 1) = ((i + 1 : Nat) : Int):=by rw [wrap_i64 (by omega) (by omega)]; omega
   have hx:=rowD_get e
   have hol : (((L.take i).take 64).map fun e => prD (prE e)).length = min 64 i:=by simp; omega
   by_cases h64 : i < 64
   ·have c1 : ((min 64 i : Nat) : Int) < 64:=by omega
    have hst : (((L.take i).take 64).map fun e => prD (prE e)) ++ [.agg [.str L[i].key,.str L[i].val]] = ((L.take (i + 1)).take 64).map fun e => prD (prE e):=by
     rw [List.take_take,List.take_take,Nat.min_eq_right (by omega),Nat.min_eq_right (by omega),List.take_succ_eq_append_getElem e,List.map_append]; rfl
    simp only [w_seq,BZ1,BZ2,BQ,Nat.reduceLT,Nat.reduceBEq,e1,BP,dropLk,cd_t,ix125,e2,rl,hx,la138,Nat.reduceAdd,Nat.reduceLeDiff,List.map_cons,List.map_nil,al138,isR_eq,hb2,hb1,if_false,takK,if_true,Proofs.Tryz.underlying138,cn138,Pos.inBox,movK,Nat.reduceEqDiff,dl64,hol,Pos.atSlot,constDV,c1,fl138_0,la9,fl138_3,bd96,bd96_0,BZ3,bd96_1,bs64_1,apo64_64,lkGet,ap64_64,hst,wi]
    refine ⟨by omega,by omega,_,?_,i + 1,_,by omega,rfl,.inr ⟨_,_,rfl⟩,rfl⟩
    omega
   ·have c1 : ¬ ((min 64 i : Nat) : Int) < 64:=by omega
    have hst : (((L.take i).take 64).map fun e => prD (prE e)) = ((L.take (i + 1)).take 64).map fun e => prD (prE e):=by
     rw [List.take_take,List.take_take,Nat.min_eq_left (by omega),Nat.min_eq_left (by omega)]
    simp only [w_seq,BZ1,BZ2,BQ,Nat.reduceLT,Nat.reduceBEq,e1,BP,dropLk,cd_t,ix125,e2,rl,hx,la138,Nat.reduceAdd,Nat.reduceLeDiff,List.map_cons,List.map_nil,al138,isR_eq,hb2,hb1,if_false,takK,if_true,Proofs.Tryz.underlying138,cn138,Pos.inBox,movK,Nat.reduceEqDiff,dl64,hol,Pos.atSlot,constDV,c1,cd_f,wi]
    rw [hst]
    refine ⟨_,?_,i + 1,_,by omega,rfl,.inr ⟨_,_,rfl⟩,rfl⟩
    omega
  ·obtain rfl : i = L.length:=by omega
   have e1 : ¬ (L.length : Int) < L.length:=by omega
   simp only [w_seq,BZ1,BZ2,BQ,Nat.reduceLT,Nat.reduceBEq,e1,BP,dropLk,cd_f,movK,Nat.reduceEqDiff,if_false,takK,lkGet,if_true,BZ3,Pos.atSlot,constDV]
   have hh:=hK H2 (f0.trans (f1.trans ((Fr.app [] _ _).trans f2)) |>.mono (by simp))
   rw [List.take_length]
   have hsc : (scanE E.es a b (min n E.seq)).map prD = (L.take 64).map fun e => prD (prE e):=by
    unfold scanE; rw [hL,List.map_map]; rfl
   rw [hsc] at hh
   exact hh
end Go.Ab.En
