/- A part of the proof; no condition of its own. -/
import Derived.Test.YtoebbafmopdfbaaGreatDoorEnBC
set_option linter.unusedSimpArgs false
set_option linter.unusedVariables false
/- EnW: The engine's laws: one row alone,as it is. -/
namespace Go.Ab.En
open Go Go.Conc Go.RowKit Go.Ab
set_option maxRecDepth 10000
def isR : ObjT:=fun t => t == 154
theorem isR_eq {t : TypeId} : isR t = (t == 154):=_root_.id rfl
noncomputable def b162 : Code:=(Go.Proofs.Tryz.f162.body).getD .skip
theorem hb162 : Go.Proofs.Tryz.f162.body = some b162:=by kernel_rfl
def Row1 (H : List HObj) (v : DV) (es : List Ent) : Prop:=(∃ own,v = .sl own 1 [.sl false 4 (rowD es)])∨∃ id q U,v = .hsl id 1 0 1 q∧1≤q∧H[id]? = some (.cells (.sl false 4 (rowD es) :: U))
def SClR1 : Spec:=fun H args K => ∃ (v : DV) (es : List Ent),args = [v]∧Row1 H v es∧∀ q,1≤q→K (H ++ [.cells (.sl false 4 (rowD es) :: List.replicate (q - 1) .undef)]) (.hsl H.length 1 0 1 q)
theorem rcClR1 {I : Jd pp} (hI : ∀ w e,I.Ok w e) : RC I 162 SClR1:=by
 refine rc_of_code (isObj:=isR) (Γ:=envOf []) (rs:=[2]) mixed hI (envOf_rc (by simp)) Go.Proofs.Tryz.func162 (by kernel_rfl) hb162 Go.Proofs.Tryz.results162 Go.Proofs.Tryz.ntmps162 (by decide) ?_
 rintro H args K ⟨v,es,rfl,⟨own,rfl⟩ | ⟨id,q0,U,rfl,h1,h0⟩,hK⟩
 ·skip
  refine ⟨by simp,rfl,?_⟩
  unfold b162 Go.Proofs.Tryz.f162
  cases own <;> simp only [Option.getD_some,argSlots,BZ2,w_seq,BZ1,constDV,Proofs.Tryz.underlying154,cn125,dropLk,Nat.reduceLT,movK,Nat.reduceBEq,lkGet,BZ3,n_eql Go.Proofs.Tryz.underlying154,BP,cd,BQ,bs154_0,isR_eq,apo154_154,takK,apdO_new,ne_eq,Nat.mul_one,srcC_sl Go.Proofs.Tryz.underlying154,Nat.reduceMul,Nat.reduceLeDiff,reduceCtorEq,List.map_cons,List.map_nil,ap154_154,if_true]
  all_goals exact hK
 ·skip
  refine ⟨by simp,rfl,?_⟩
  unfold b162 Go.Proofs.Tryz.f162
  have q1 : ¬ q0 = 0:=by omega
  have q2 : (0 : Int)≤q0:=by omega
  simp only [Option.getD_some,argSlots,BZ2,w_seq,BZ1,constDV,Proofs.Tryz.underlying154,cn125,dropLk,Nat.reduceLT,movK,Nat.reduceBEq,BZ3,n_eqlh Go.Proofs.Tryz.underlying154,BP,cd,BQ,bs154_0,isR_eq,aph154_154,takK,apdO_new,ne_eq,Nat.mul_one,srcC_h Go.Proofs.Tryz.underlying154,h0,Nat.reduceLeDiff,Nat.reduceMul,reduceCtorEq,List.map_cons,List.map_nil,if_true,q1]
  exact hK
noncomputable def b101 : Code:=(Go.Proofs.Tryz.f101.body).getD .skip
theorem hb101 : Go.Proofs.Tryz.f101.body = some b101:=by kernel_rfl
def SRows1 : Spec:=fun H args K => ∃ (v : DV) (es : List Ent),args = [v]∧Row1 H v es∧Sorted es∧es.length < 100000000∧∀ H',Fr [] H H'→K H' (.tup [.sl true 4 (rowD es),.int .i64 0])
def MRw (H : List HObj) (es : List Ent) (L q : Nat) (m : Nat) (st : St) : Prop:=∃ (j : Nat) (H' : List HObj) (U : List DV) (B : List (Nat × Nat × List DV)),j≤es.length∧m = es.length - j∧H.length≤L∧Fr [] H H'∧H'[L]? = some (.cells (.sl false 4 (rowD (es.drop j)) :: U))∧(B = []∨∃ g c,B = [(11,g,c)]) ∧
 st = mk 86 [(4,.hsl L 1 0 1 q),(7,.sl true 4 (rowD (es.take j)))] B H' []
set_option maxHeartbeats 4000000 in
theorem rcRows1 {I : Jd pp} (hI : ∀ w e,I.Ok w e) (hC : RC I 135 SCs) : RC I 101 SRows1:=by
 refine rc_of_code (isObj:=noO) (Γ:=envOf [(162,SClR1),(163,SSorted),(165,SCe),(164,SLe)]) (rs:=[2,3]) mixed hI (envOf_rc (by simpa using ⟨rcClR1 hI,rcSorted hI hC,rcCe hI hC,rcLe hI hC⟩)) Go.Proofs.Tryz.func101 (by kernel_rfl) hb101 Go.Proofs.Tryz.results101 Go.Proofs.Tryz.ntmps101 (by decide) ?_
 rintro H args K ⟨v,es,rfl,⟨own,rfl⟩ | ⟨id,q0,U0,rfl,h1,h0⟩,hs,hl,hK⟩
 ·skip
  refine ⟨by simp,rfl,?_⟩
  unfold b101 Go.Proofs.Tryz.f101
  simp only [Int.reduceNeg,BQ,Option.getD_some,argSlots,BZ2,w_seq,BZ1,constDV,Proofs.Tryz.underlying125,cn138,dropLk,Nat.reduceLT,movK,Nat.reduceBEq,lkGet,Nat.reduceEqDiff,if_false,if_true,List.map_cons,List.map_nil]
  refine ⟨_,es,rfl,.inl ⟨_,rfl⟩,fun q hq => ?_⟩
  simp only [Int.reduceNeg,BZ1,BZ2,Pos.isHp,BQ,BP,dropLk,Nat.reduceLT,takK,w_seq,movK,Nat.reduceBEq,lkGet,dl154,nc1,constDV]
  refine w_unroll 2 ?_
  simp only [Int.reduceNeg,lw_succ,w_seq,BZ1,BZ2,BQ,Nat.reduceLT,Nat.reduceBEq,Int.reduceLT,BP,dropLk,cd_t,ix154,Int.reduceLE,nc1,Int.reduceToNat,la125,addrPos,takK,lkGet,movK,Nat.reduceEqDiff,if_false,if_true,List.map_cons,List.map_nil]
  refine appSorted es (.inl ⟨_,rfl⟩) hs (by omega) ?_
  simp only [Int.reduceNeg,BZ1,BZ2,Pos.isHp,BQ,BP,dropLk,Nat.reduceLT,cd_f,Nat.reduceBEq,constDV,Int.reduceAdd,Int.reduceLE,Int.reduceLT,wrap_i64,movK,lw_succ,w_seq,Proofs.Tryz.underlying125,cn138,if_true,if_false]
  refine w_loop [4,7] (MRw H es H.length q) es.length ?_ ?_
  ·exact ⟨0,H ++ [.cells (.sl false 4 (rowD es) :: List.replicate (q - 1) .undef)],List.replicate (q - 1) .undef,[],by omega,by omega,by omega,Fr.app [] H _,by simp,.inl rfl,by simp only [rowD,BZ3,BZ1,BZ2,mk_put?_some,mk_put?_none,List.map_cons,Nat.reduceBEq,List.map_nil,List.take_zero]; try rfl⟩
  ·rintro m st ⟨j,H',U,B,hj,rfl,hL,f1,g1,hB,rfl⟩
   obtain ⟨g,hb2,hb1⟩:=box1 hB
   simp only [Int.reduceNeg,BZ2,BZ3,w_seq,BZ1,constDV,dropLk,Nat.reduceLT,movK,Nat.reduceBEq,dlh154,mk_put?_some]
   refine w_unroll 2 ?_
   by_cases e : j < es.length
   ·have rl : (rowD (es.drop j)).length = es.length - j:=by simp [rowD]
    have c1 : ¬ ((es.length - j : Nat) : Int) = 0:=by omega
    simp only [Int.reduceNeg,lw_succ,w_seq,BZ1,BZ2,BQ,Nat.reduceLT,Nat.reduceBEq,Int.reduceLT,BP,dropLk,cd_t,movK,ixh154,Int.reduceLE,BZ3,Int.reduceToNat,Nat.mul_one,g1,la125,addrPos,ia125,if_false,takK,Pos.atSlot,lkGet,if_true,reduceCtorEq,dl125,rl,constDV,c1,cd_f]
    refine w_draw [12] (.quiet 0 (.quiet 1 (.quiet 2 (.quiet 3 (.quiet 4 (.quiet 5 (.quiet 6 (.quiet 7 (.quiet 8 (.quiet 9 (.quiet 10 (.quiet 11 (.acts [(12,[],.quiet 13 (.done))]))))))))))))) (by decide) (by kernel_rfl) ?_
    have hlt : H.length < H'.length:=(List.getElem?_eq_some_iff.1 g1).1
    have g2 : ∀ X,(H'.set H.length X)[H.length]? = some X:=fun X => List.getElem?_set_self hlt
    have hx0 : (rowD (es.drop j)).getD 0 .undef = .agg [.str es[j].key,.int .i64 es[j].seq,.bool es[j].del,.str es[j].val]:=by
     have:=rowD_get (es:=es.drop j) (i:=0) (by simp; omega)
     simpa using this
    have z1 : (0 : Int) < ((es.length - j : Nat) : Int):=by omega
    have z2 : (1 : Int)≤((es.length - j : Nat) : Int):=by omega
    have sd : ((rowD (es.drop j)).take (es.length - j)).drop 1 = rowD (es.drop (j + 1)):=by
     rw [List.take_of_length_le (by rw [rl]; omega)]
     simp [rowD]
    have rt : (rowD (es.take j)).length = j:=by simp [rowD]; omega
    have w0 : IntKind.i64.wrap 1 = 1:=by decide
    have fH : ∀ X,Fr [] H (H'.set H.length X):=fun X => ⟨by have:=f1.1; simp; omega,fun i hi hn => by rw [List.getElem?_set_ne (by omega)]; exact f1.2 i hi hn⟩
    have ht : rowD (es.take j) ++ [.agg [.str es[j].key,.int .i64 es[j].seq,.bool es[j].del,.str es[j].val]] = rowD (es.take (j + 1)):=by
     rw [List.take_succ_eq_append_getElem e]; unfold rowD; rw [List.map_append]; rfl
    by_cases hj0 : j = 0
    ·have q0 : ((j : Nat) : Int) = 0:=by omega
     simp only [Int.reduceNeg,BZ1,BZ2,Nat.reduceLT,Nat.reduceBEq,dropLk,BZ3,constDV,Int.reduceLT,BQ,gs2_tf,BP,dropLks,List.map_nil,if_true,cd_t,movK,takK,Int.reduceAdd,w0,lw_succ,w_seq,cd_f,ixh154,Int.reduceLE,Int.reduceToNat,Nat.mul_one,g1,la125,addrPos,ia125,if_false,ix125,rl,z1,hx0,Pos.atSlot,la138,Nat.reduceAdd,Nat.reduceLeDiff,List.map_cons,al138,isO_eq,hb2,hb1,Proofs.Tryz.underlying138,cn138,Pos.inBox,sc125,dbound,z2,sd,lkGet,Nat.reduceEqDiff,Proofs.Tryz.underlying125,cn125,Pos.inHp,dl125,rt]
     refine w_draw [9] (.quiet 0 (.quiet 1 (.quiet 2 (.quiet 3 (.quiet 4 (.quiet 5 (.quiet 6 (.quiet 7 (.quiet 8 (.acts [(9,[],.quiet 10 (.quiet 11 (.done)))])))))))))) (by decide) (by kernel_rfl) ?_
     simp only [q0,Int.reduceNeg,BZ1,BZ2,Nat.reduceLT,dropLk,BZ3,constDV,BQ,gs2_tf,Nat.reduceBEq,BP,dropLks,List.map_nil,if_true,cd_t,movK,Nat.reduceEqDiff,if_false,la138,Nat.reduceAdd,Nat.reduceLeDiff,List.map_cons,Pos.atSlot,bs125_1,isO_eq,apo125_125,takK,lkGet,ap125_125,rt,ht]
     refine ⟨by omega,by omega,_,?_,j + 1,_,U,_,by omega,rfl,hL,fH _,g2 _,.inr ⟨_,_,rfl⟩,rfl⟩
     omega
    ·have q0 : ¬ ((j : Nat) : Int) = 0:=by omega
     have w2 : IntKind.i64.wrap ((j : Int) - 1) = ((j - 1 : Nat) : Int):=by rw [wrap_i64 (by omega) (by omega)]; omega
     have p0 : (0 : Int)≤((j - 1 : Nat) : Int):=by omega
     have p1 : ((j - 1 : Nat) : Int) < (j : Int):=by omega
     have hjl : j - 1 < es.length:=by omega
     have hx1 : (rowD (es.take j)).getD (j - 1) .undef = .agg [.str es[j - 1].key,.int .i64 es[j - 1].seq,.bool es[j - 1].del,.str es[j - 1].val]:=by
      have:=rowD_get (es:=es.take j) (i:=j - 1) (by simp; omega)
      simpa using this
     have hlt2 : ltE es[j - 1] es[j] = true:=List.pairwise_iff_getElem.1 hs (j - 1) j hjl e (by omega)
     have hce : ¬ cmpE es[j - 1] es[j] = 0:=by
      have:=of_decide_eq_true hlt2
      omega
     simp only [Int.reduceNeg,BZ1,BZ2,Nat.reduceLT,Nat.reduceBEq,dropLk,BZ3,constDV,Int.reduceLT,BQ,gs2_tf,BP,dropLks,List.map_nil,if_true,cd_t,movK,takK,Int.reduceAdd,w0,lw_succ,w_seq,cd_f,ixh154,Int.reduceLE,Int.reduceToNat,Nat.mul_one,g1,la125,addrPos,ia125,if_false,ix125,rl,z1,hx0,Pos.atSlot,la138,Nat.reduceAdd,Nat.reduceLeDiff,List.map_cons,al138,isO_eq,hb2,hb1,Proofs.Tryz.underlying138,cn138,Pos.inBox,sc125,dbound,z2,sd,lkGet,Nat.reduceEqDiff,Proofs.Tryz.underlying125,cn125,Pos.inHp,dl125,rt]
     refine w_draw [9] (.quiet 0 (.quiet 1 (.quiet 2 (.quiet 3 (.quiet 4 (.quiet 5 (.quiet 6 (.quiet 7 (.quiet 8 (.acts [(9,[],.quiet 10 (.quiet 11 (.done)))])))))))))) (by decide) (by kernel_rfl) ?_
     simp only [Int.reduceNeg,BZ1,BZ2,Nat.reduceLT,dropLk,BZ3,constDV,q0,BQ,gs2_ff,Nat.reduceBEq,w2,BP,ix125,p0,rt,p1,hx1,la138,Nat.reduceAdd,Nat.reduceLeDiff,List.map_cons,List.map_nil,if_true,Nat.reduceEqDiff,if_false]
     refine appCe ?_
     simp only [Int.reduceNeg,BZ1,BZ2,Pos.isHp,BQ,BP,dropLk,dropLks,Nat.reduceLT,Nat.reduceBEq,gs2_ff,BZ3,constDV,ne_eq,hce,if_false,cd_t,movK,Nat.reduceEqDiff,if_true,la138,Nat.reduceAdd,Nat.reduceLeDiff,List.map_cons,List.map_nil,Pos.atSlot,bs125_1,isO_eq,apo125_125,takK,lkGet,ap125_125,rt,ht]
     refine ⟨by omega,by omega,_,?_,j + 1,_,U,_,by omega,rfl,hL,fH _,g2 _,.inr ⟨_,_,rfl⟩,rfl⟩
     omega
   ·obtain rfl : j = es.length:=by omega
    have rl : (rowD (es.drop es.length)).length = 0:=by simp [rowD]
    have w0 : IntKind.i64.wrap 1 = 1:=by decide
    simp only [Int.reduceNeg,lw_succ,w_seq,BZ1,BZ2,BQ,Nat.reduceLT,Nat.reduceBEq,Int.reduceLT,BP,dropLk,cd_t,movK,ixh154,Int.reduceLE,BZ3,Int.reduceToNat,Nat.mul_one,g1,la125,addrPos,ia125,if_false,takK,Pos.atSlot,lkGet,if_true,reduceCtorEq,dl125,rl,constDV,Int.reduceAdd,w0,cd_f,Nat.reduceEqDiff,List.map_cons,List.map_nil]
    rw [List.take_length]
    exact hK _ f1
 ·skip
  refine ⟨by simp,rfl,?_⟩
  unfold b101 Go.Proofs.Tryz.f101
  simp only [Int.reduceNeg,BQ,Option.getD_some,argSlots,BZ2,w_seq,BZ1,constDV,Proofs.Tryz.underlying125,cn138,dropLk,Nat.reduceLT,movK,Nat.reduceBEq,Nat.reduceEqDiff,if_false,if_true,List.map_cons,List.map_nil]
  refine ⟨_,es,rfl,.inr ⟨id,q0,U0,rfl,h1,h0⟩,fun q hq => ?_⟩
  have g0 : ∀ X,(H ++ [X])[id]? = some (.cells (.sl false 4 (rowD es) :: U0)):=fun X => (Fr.app [] H [X]).get h0 (by simp)
  simp only [Int.reduceNeg,BZ1,BZ2,Pos.isHp,BQ,BP,dropLk,Nat.reduceLT,takK,w_seq,movK,Nat.reduceBEq,dlh154,nc1,constDV]
  refine w_unroll 2 ?_
  simp only [Int.reduceNeg,lw_succ,w_seq,BZ1,BZ2,BQ,Nat.reduceLT,Nat.reduceBEq,Int.reduceLT,BP,dropLk,cd_t,ixh154,Int.reduceLE,nc1,Int.reduceToNat,Nat.mul_one,g0,la125,addrPos,ia125,if_false,takK,lkGet,if_true,reduceCtorEq,Pos.atSlot,movK,Nat.reduceEqDiff,List.map_cons,List.map_nil]
  refine appSorted es (.inl ⟨_,rfl⟩) hs (by omega) ?_
  simp only [Int.reduceNeg,BZ1,BZ2,Pos.isHp,BQ,BP,dropLk,Nat.reduceLT,cd_f,Nat.reduceBEq,constDV,Int.reduceAdd,Int.reduceLE,Int.reduceLT,wrap_i64,movK,lw_succ,w_seq,Proofs.Tryz.underlying125,cn138,if_true,if_false]
  refine w_loop [4,7] (MRw H es H.length q) es.length ?_ ?_
  ·exact ⟨0,H ++ [.cells (.sl false 4 (rowD es) :: List.replicate (q - 1) .undef)],List.replicate (q - 1) .undef,[],by omega,by omega,by omega,Fr.app [] H _,by simp,.inl rfl,by simp only [rowD,BZ3,BZ1,BZ2,mk_put?_some,mk_put?_none,List.map_cons,Nat.reduceBEq,List.map_nil,List.take_zero]; try rfl⟩
  ·rintro m st ⟨j,H',U,B,hj,rfl,hL,f1,g1,hB,rfl⟩
   obtain ⟨g,hb2,hb1⟩:=box1 hB
   simp only [Int.reduceNeg,BZ2,BZ3,w_seq,BZ1,constDV,dropLk,Nat.reduceLT,movK,Nat.reduceBEq,dlh154,mk_put?_some]
   refine w_unroll 2 ?_
   by_cases e : j < es.length
   ·have rl : (rowD (es.drop j)).length = es.length - j:=by simp [rowD]
    have c1 : ¬ ((es.length - j : Nat) : Int) = 0:=by omega
    simp only [Int.reduceNeg,lw_succ,w_seq,BZ1,BZ2,BQ,Nat.reduceLT,Nat.reduceBEq,Int.reduceLT,BP,dropLk,cd_t,movK,ixh154,Int.reduceLE,BZ3,Int.reduceToNat,Nat.mul_one,g1,la125,addrPos,ia125,if_false,takK,Pos.atSlot,lkGet,if_true,reduceCtorEq,dl125,rl,constDV,c1,cd_f]
    refine w_draw [12] (.quiet 0 (.quiet 1 (.quiet 2 (.quiet 3 (.quiet 4 (.quiet 5 (.quiet 6 (.quiet 7 (.quiet 8 (.quiet 9 (.quiet 10 (.quiet 11 (.acts [(12,[],.quiet 13 (.done))]))))))))))))) (by decide) (by kernel_rfl) ?_
    have hlt : H.length < H'.length:=(List.getElem?_eq_some_iff.1 g1).1
    have g2 : ∀ X,(H'.set H.length X)[H.length]? = some X:=fun X => List.getElem?_set_self hlt
    have hx0 : (rowD (es.drop j)).getD 0 .undef = .agg [.str es[j].key,.int .i64 es[j].seq,.bool es[j].del,.str es[j].val]:=by
     have:=rowD_get (es:=es.drop j) (i:=0) (by simp; omega)
     simpa using this
    have z1 : (0 : Int) < ((es.length - j : Nat) : Int):=by omega
    have z2 : (1 : Int)≤((es.length - j : Nat) : Int):=by omega
    have sd : ((rowD (es.drop j)).take (es.length - j)).drop 1 = rowD (es.drop (j + 1)):=by
     rw [List.take_of_length_le (by rw [rl]; omega)]
     simp [rowD]
    have rt : (rowD (es.take j)).length = j:=by simp [rowD]; omega
    have w0 : IntKind.i64.wrap 1 = 1:=by decide
    have fH : ∀ X,Fr [] H (H'.set H.length X):=fun X => ⟨by have:=f1.1; simp; omega,fun i hi hn => by rw [List.getElem?_set_ne (by omega)]; exact f1.2 i hi hn⟩
    have ht : rowD (es.take j) ++ [.agg [.str es[j].key,.int .i64 es[j].seq,.bool es[j].del,.str es[j].val]] = rowD (es.take (j + 1)):=by
     rw [List.take_succ_eq_append_getElem e]; unfold rowD; rw [List.map_append]; rfl
    by_cases hj0 : j = 0
    ·have q0 : ((j : Nat) : Int) = 0:=by omega
     simp only [Int.reduceNeg,BZ1,BZ2,Nat.reduceLT,Nat.reduceBEq,dropLk,BZ3,constDV,Int.reduceLT,BQ,gs2_tf,BP,dropLks,List.map_nil,if_true,cd_t,movK,takK,Int.reduceAdd,w0,lw_succ,w_seq,cd_f,ixh154,Int.reduceLE,Int.reduceToNat,Nat.mul_one,g1,la125,addrPos,ia125,if_false,ix125,rl,z1,hx0,Pos.atSlot,la138,Nat.reduceAdd,Nat.reduceLeDiff,List.map_cons,al138,isO_eq,hb2,hb1,Proofs.Tryz.underlying138,cn138,Pos.inBox,sc125,dbound,z2,sd,lkGet,Nat.reduceEqDiff,Proofs.Tryz.underlying125,cn125,Pos.inHp,dl125,rt]
     refine w_draw [9] (.quiet 0 (.quiet 1 (.quiet 2 (.quiet 3 (.quiet 4 (.quiet 5 (.quiet 6 (.quiet 7 (.quiet 8 (.acts [(9,[],.quiet 10 (.quiet 11 (.done)))])))))))))) (by decide) (by kernel_rfl) ?_
     simp only [q0,Int.reduceNeg,BZ1,BZ2,Nat.reduceLT,dropLk,BZ3,constDV,BQ,gs2_tf,Nat.reduceBEq,BP,dropLks,List.map_nil,if_true,cd_t,movK,Nat.reduceEqDiff,if_false,la138,Nat.reduceAdd,Nat.reduceLeDiff,List.map_cons,Pos.atSlot,bs125_1,isO_eq,apo125_125,takK,lkGet,ap125_125,rt,ht]
     refine ⟨by omega,by omega,_,?_,j + 1,_,U,_,by omega,rfl,hL,fH _,g2 _,.inr ⟨_,_,rfl⟩,rfl⟩
     omega
    ·have q0 : ¬ ((j : Nat) : Int) = 0:=by omega
     have w2 : IntKind.i64.wrap ((j : Int) - 1) = ((j - 1 : Nat) : Int):=by rw [wrap_i64 (by omega) (by omega)]; omega
     have p0 : (0 : Int)≤((j - 1 : Nat) : Int):=by omega
     have p1 : ((j - 1 : Nat) : Int) < (j : Int):=by omega
     have hjl : j - 1 < es.length:=by omega
     have hx1 : (rowD (es.take j)).getD (j - 1) .undef = .agg [.str es[j - 1].key,.int .i64 es[j - 1].seq,.bool es[j - 1].del,.str es[j - 1].val]:=by
      have:=rowD_get (es:=es.take j) (i:=j - 1) (by simp; omega)
      simpa using this
     have hlt2 : ltE es[j - 1] es[j] = true:=List.pairwise_iff_getElem.1 hs (j - 1) j hjl e (by omega)
     have hce : ¬ cmpE es[j - 1] es[j] = 0:=by
      have:=of_decide_eq_true hlt2
      omega
     simp only [Int.reduceNeg,BZ1,BZ2,Nat.reduceLT,Nat.reduceBEq,dropLk,BZ3,constDV,Int.reduceLT,BQ,gs2_tf,BP,dropLks,List.map_nil,if_true,cd_t,movK,takK,Int.reduceAdd,w0,lw_succ,w_seq,cd_f,ixh154,Int.reduceLE,Int.reduceToNat,Nat.mul_one,g1,la125,addrPos,ia125,if_false,ix125,rl,z1,hx0,Pos.atSlot,la138,Nat.reduceAdd,Nat.reduceLeDiff,List.map_cons,al138,isO_eq,hb2,hb1,Proofs.Tryz.underlying138,cn138,Pos.inBox,sc125,dbound,z2,sd,lkGet,Nat.reduceEqDiff,Proofs.Tryz.underlying125,cn125,Pos.inHp,dl125,rt]
     refine w_draw [9] (.quiet 0 (.quiet 1 (.quiet 2 (.quiet 3 (.quiet 4 (.quiet 5 (.quiet 6 (.quiet 7 (.quiet 8 (.acts [(9,[],.quiet 10 (.quiet 11 (.done)))])))))))))) (by decide) (by kernel_rfl) ?_
     simp only [Int.reduceNeg,BZ1,BZ2,Nat.reduceLT,dropLk,BZ3,constDV,q0,BQ,gs2_ff,Nat.reduceBEq,w2,BP,ix125,p0,rt,p1,hx1,la138,Nat.reduceAdd,Nat.reduceLeDiff,List.map_cons,List.map_nil,if_true,Nat.reduceEqDiff,if_false]
     refine appCe ?_
     simp only [Int.reduceNeg,BZ1,BZ2,Pos.isHp,BQ,BP,dropLk,dropLks,Nat.reduceLT,Nat.reduceBEq,gs2_ff,BZ3,constDV,ne_eq,hce,if_false,cd_t,movK,Nat.reduceEqDiff,if_true,la138,Nat.reduceAdd,Nat.reduceLeDiff,List.map_cons,List.map_nil,Pos.atSlot,bs125_1,isO_eq,apo125_125,takK,lkGet,ap125_125,rt,ht]
     refine ⟨by omega,by omega,_,?_,j + 1,_,U,_,by omega,rfl,hL,fH _,g2 _,.inr ⟨_,_,rfl⟩,rfl⟩
     omega
   ·obtain rfl : j = es.length:=by omega
    have rl : (rowD (es.drop es.length)).length = 0:=by simp [rowD]
    have w0 : IntKind.i64.wrap 1 = 1:=by decide
    simp only [Int.reduceNeg,lw_succ,w_seq,BZ1,BZ2,BQ,Nat.reduceLT,Nat.reduceBEq,Int.reduceLT,BP,dropLk,cd_t,movK,ixh154,Int.reduceLE,BZ3,Int.reduceToNat,Nat.mul_one,g1,la125,addrPos,ia125,if_false,takK,Pos.atSlot,lkGet,if_true,reduceCtorEq,dl125,rl,constDV,Int.reduceAdd,w0,cd_f,Nat.reduceEqDiff,List.map_cons,List.map_nil]
    rw [List.take_length]
    exact hK _ f1
end Go.Ab.En
