/- A part of the proof; no condition of its own. -/
import Derived.Test.YtoebbafmopdfbaaGreatDoorEnCE
set_option linter.unusedSimpArgs false
set_option linter.unusedVariables false
namespace Go.Ab.En
open Go Go.Conc Go.RowKit Go.Ab
set_option maxRecDepth 10000
def getR (sp : Int) (k v : Str) (ok : Bool) : Rd:=⟨sp,false,k,[],pairsL k v ok⟩
theorem DealS.At.readUp {D : DealS} {H H1 : List HObj} (h : D.At H) (f : Fr [] H H1) (rs : List Rd) (X : HObj) (hX : X = .cells [.ptr D.x 0,.ptr D.s 0,.int .u8 D.home,.sl true 5 (rs.map rdD),.hsl D.wi 3 0 D.ws.length D.cap,.bool D.over]) : DealS.At { D with reads:=rs } (H1.set D.d X):=by
 subst hX
 have h1:=h.fr f (by simp)
 refine ⟨List.getElem?_set_self (h1.lt D.d (by simp [DealS.all])),h1.snap.fr (Fr.set _ D.d _) (by simpa using h.ds.symm),h1.wrs.fr (Fr.set _ D.d _) (fun hc => by simpa using (h.dw hc).symm),h.ds,h.dw,h.sw⟩
noncomputable def b34 : Code:=(Go.Proofs.Tryz.f34.body).getD .skip
theorem hb34 : Go.Proofs.Tryz.f34.body = some b34:=by kernel_rfl
def SDGet : Spec:=fun H args K => ∃ (D : DealS) (E : EngS) (m : Nat) (sp : Int) (k : Str),args = [.ptr D.d 0,.int .u8 sp,.str k]∧D.At H∧E.x = D.x∧E.At H∧E.Good m∧m < 300∧0≤sp∧sp < 256∧k.length < 4000000000000000000∧D.ws.length < 100000∧D.reads.length < 100000 ∧
 (D.over = true→∀ H',Fr [] H H'→K H' (.tup [.str [],.bool false,.int .i64 18])) ∧
 (D.over = false→keyedB k = false→∀ H',Fr [] H H'→K H' (.tup [.str [],.bool false,.int .i64 10])) ∧
 (D.over = false→keyedB k = true→sp = D.home→∀ i (h : i < D.ws.length),idxP (fun w => decide (w.key = k)) D.ws = some i→∀ H',Fr [] H H'→K H' (.tup [.str D.ws[i].val,.bool (!D.ws[i].del),.int .i64 0])) ∧
 (D.over = false→keyedB k = true→(sp = D.home→idxP (fun w => decide (w.key = k)) D.ws = none)→∀ H' v,Fr [D.d] H H'→((seenE E.es (keyS sp k) (min D.n m)).isSome = true→seenE E.es (keyS sp k) (min D.n m) = some v) →
  DealS.At { D with reads:=D.reads ++ [getR sp k v (seenE E.es (keyS sp k) (min D.n m)).isSome] } H'→K H' (.tup [.str v,.bool (seenE E.es (keyS sp k) (min D.n m)).isSome,.int .i64 0]))
set_option maxHeartbeats 8000000 in
theorem rcDGet {I : Jd pp} (hI : ∀ w e,I.Ok w e) (hG : RC I 57 SSnGet) : RC I 34 SDGet:=by
 refine rc_of_code (isObj:=noO) (Γ:=envOf [(88,SKeyed),(89,SPlace),(84,SKey),(57,SSnGet)]) (rs:=[6,7,8]) mixed hI (envOf_rc (by simpa using ⟨rcKeyed hI,rcPlace hI,rcKey hI,hG⟩)) Go.Proofs.Tryz.func34 (by kernel_rfl) hb34 Go.Proofs.Tryz.results34 Go.Proofs.Tryz.ntmps34 (by decide) ?_
 rintro H args K ⟨D,E,m,sp,k,rfl,h1,hx,h2,hg,hm,s0,s1,hkl,hwl,hrl,hK1,hK2,hK3,hK4⟩
 have t0:=h1.top
 refine ⟨by simp,rfl,?_⟩
 unfold b34 Go.Proofs.Tryz.f34
 cases ho : D.over
 ·rw [ho] at t0
  simp only [BQ,Option.getD_some,argSlots,BB2,BB1,Nat.reduceAdd,BB0,constDV,dropLk,Nat.reduceLT,movK,Nat.reduceBEq,BB3,dnil,fp143_5,t0,la4,takK,cd_f,BB4,BB5,Nat.reduceEqDiff,if_false,if_true,List.map_cons,List.map_nil]
  refine appKeyed ?_
  cases hk : keyedB k
  ·simp only [BB1,BB5,Pos.isHp,BQ,dropLk,BB0,Nat.reduceLT,BB3,BB4,takK,cd_t,constDV,BB7,Nat.reduceBEq]
   exact hK2 ho hk H (Fr.refl _ _)
  simp only [BB1,BB5,Pos.isHp,BQ,dropLk,BB0,Nat.reduceLT,BB3,BB4,takK,cd_f,movK,Nat.reduceBEq,BB2,Nat.reduceEqDiff,if_false,if_true,List.map_cons,List.map_nil]
  refine appPlace h1 (by omega) fun H1 f1 => ?_
  have d1:=h1.fr f1 (by simp)
  have t1:=d1.top
  have sn:=d1.snap
  rw [ho] at t1 sn
  have a1:=h2.fr0 f1
  by_cases hp : sp = D.home∧∃ i,idxP (fun w => decide (w.key = k)) D.ws = some i
  ·obtain ⟨hsp,i,hp⟩:=hp
   have hpl : placeW D.ws k = (i : Int):=by simp [placeW,hp,idxI]
   obtain ⟨hi,_⟩:=idxP_lt hp
   have e1 : (0 : Int)≤i:=by omega
   have e2 : (i : Int) < D.ws.length:=by omega
   have hcw : D.cap ≠ 0:=by have:=h1.wrs.1; omega
   obtain ⟨cs,k1,k2⟩:=d1.wrs.row.2 (by intro h; rw [h] at hi; simp at hi)
   obtain ⟨r,d2⟩:=hroww_cells k2 hi
   rw [Nat.zero_add] at d2
   simp only [hpl,BB1,hsp,BB5,Pos.isHp,BQ,dropLk,BB0,Nat.reduceLT,takK,BB3,movK,Nat.reduceBEq,BB2,dnil,fp143_2,t1,la5,BB4,gs2_tt,constDV,e1,if_true,cd_t,if_false]
   refine w_draw [17,18,19] (.quiet 0 (.quiet 1 (.quiet 2 (.quiet 3 (.quiet 4 (.quiet 5 (.quiet 6 (.quiet 7 (.quiet 8 (.quiet 9 (.quiet 10 (.quiet 11 (.quiet 12 (.quiet 13 (.quiet 14 (.quiet 15 (.quiet 16 (.acts [(17,[16,15,14,13,12,11,10,9,8],.acts [(18,[],.acts [(19,[],.done)])])])))))))))))))))))) (by decide) (by kernel_rfl) ?_
   have d3 : cs.drop (i * 3 + 1) = .bool (D.ws[i]).del :: .str (D.ws[i]).val :: r:=by rw [← List.drop_drop,d2]; rfl
   have d4 : cs.drop (i * 3 + 2) = .str (D.ws[i]).val :: r:=by rw [← List.drop_drop,d2]; rfl
   simp only [BB0,BB5,BB1,Nat.reduceLT,Nat.reduceBEq,BB3,BB2,dropLk,dnil,fp143_4,BQ,t1,la33,ixh33,e1,e2,fp32_2,k1,d4,la9,fp32_1,d3,la4,BB4,takK,dropLks,constDV,BB7]
   exact hK3 ho hk hsp i hi hp H1 f1
  ·have hp2 : sp = D.home→idxP (fun w => decide (w.key = k)) D.ws = none:=fun h => by
    cases hq : idxP (fun w => decide (w.key = k)) D.ws with
    | none => rfl
    | some i => exact absurd ⟨h,i,hq⟩ hp
   have hlt:=(List.getElem?_eq_some_iff.1 t1).1
   by_cases hsp : sp = D.home
   ·have hpl : placeW D.ws k = -1:=by simp [placeW,hp2 hsp,idxI]
    subst hsp
    simp only [hpl,Int.reduceNeg,BB1,BB5,Pos.isHp,BQ,dropLk,BB0,Nat.reduceLT,takK,BB3,movK,Nat.reduceBEq,BB2,dnil,fp143_2,t1,la5,BB4,gs2_tt,constDV,Int.reduceLE,if_true,cd_f,if_false]
    refine w_draw [6,7,12,13,14] (.quiet 0 (.quiet 1 (.quiet 2 (.quiet 3 (.quiet 4 (.quiet 5 (.acts [(6,[3,2,1,0],.acts [(7,[],.quiet 8 (.quiet 9 (.quiet 10 (.quiet 11 (.acts [(12,[11,10],.acts [(13,[11],.acts [(14,[],.done)])])])))))])]))))))) (by decide) (by kernel_rfl) ?_
    simp only [Int.reduceNeg,BB0,BB5,BB1,Nat.reduceLT,Nat.reduceBEq,BB3,BB2,dropLk,dnil,fp143_1,BQ,t1,la34,BB4,Nat.reduceEqDiff,if_false,if_true,List.map_cons,List.map_nil]
    refine appKey hkl ?_
    simp only [Int.reduceNeg,BB1,BB5,Pos.isHp,BQ,dropLk,BB0,Nat.reduceLT,Nat.reduceBEq,BB3,t1,la34,BB2,fp143_1,dnil,dropLks,BB4,Nat.reduceEqDiff,if_true,if_false,List.map_cons,List.map_nil]
    refine appSnGetX hx sn a1 hg hm fun H2 v f2 hv => ?_
    have d3:=d1.fr f2 (by simp)
    have t3:=d3.top
    rw [ho] at t3
    have g3 : ∀ X,(H2.set D.d X)[D.d]? = some X:=fun X => List.getElem?_set_self (List.getElem?_eq_some_iff.1 t3).1
    have w2 : IntKind.i64.wrap D.home = D.home:=wrap_i64 (by omega) (by omega)
    have f12 : Fr [] H H2:=(f1.trans f2).mono (by simp)
    have hup : ∀ ok,DealS.At { D with reads:=D.reads ++ [getR D.home k v ok] } (H2.set D.d (.cells [.ptr D.x 0,.ptr D.s 0,.int .u8 D.home,.sl true 5 (D.reads.map rdD ++ [.agg [.int .i64 D.home,.bool false,.str k,.str [],.sl false 2 ((pairsL k v ok).map prD)]]),.hsl D.wi 3 0 D.ws.length D.cap,.bool false])):=fun ok =>
     h1.readUp f12 (D.reads ++ [getR D.home k v ok]) _ (by rw [ho,List.map_append]; rfl)
    have hfin:=fun X hX => hK4 ho hk hp2 (H2.set D.d X) v ((f12.trans (Fr.set _ D.d X)).mono (by simp)) hv hX
    cases hse : (seenE E.es (keyS D.home k) (min D.n m)).isSome
    ·rw [hse] at hfin
     simp only [Int.reduceNeg,BB1,BB5,Pos.isHp,BQ,dropLk,dropLks,BB0,Nat.reduceLT,BB3,BB2,List.map_cons,List.map_nil,Nat.reduceBEq,takK,movK,BB4,constDV,ne_eq,cd_f,cv5_3,bd148,isO_eq,BB7,bd148_0,BB6,Nat.reduceAdd,Nat.reduceLeDiff,bd148_2,al148,bgen_eq,if_false,if_true,Proofs.Tryz.underlying148,cn148,Pos.inBox]
     refine w_draw [4,6,7,10] (.quiet 0 (.quiet 1 (.quiet 2 (.quiet 3 (.quiet 5 (.acts [(4,[5,0],.acts [(6,[3,2,1,0],.acts [(7,[0],.quiet 8 (.quiet 9 (.acts [(10,[],.done)])))])]),(6,[3,2,1,0],.acts [(4,[5,0],.acts [(7,[0],.quiet 8 (.quiet 9 (.acts [(10,[],.done)])))])])])))))) (by decide) (by kernel_rfl) ?_
     simp only [w2,Int.reduceNeg,BB0,BB5,BB1,Nat.reduceLT,Nat.reduceBEq,BB3,BB2,dropLk,dnil,fp143_3,BQ,if_true,la148,Nat.reduceAdd,Nat.reduceLeDiff,List.map_cons,List.map_nil,t3,la67,addrPos,ia67,if_false,dropLks,Pos.atSlot,bs67_1,isO_eq,BB4,apo67_67,takK,lkGet,BB6,ap67_67,List.length_map,g3,Proofs.Tryz.underlying67,cn67,Pos.inHp,movK,constDV,BB7]
     exact ⟨⟨by omega,by omega,hfin _ (hup false)⟩,by omega,by omega,hfin _ (hup false)⟩
    ·rw [hse] at hfin
     simp only [Int.reduceNeg,BB1,BB5,Pos.isHp,BQ,dropLk,dropLks,BB0,Nat.reduceLT,BB3,BB2,List.map_cons,List.map_nil,Nat.reduceBEq,takK,movK,BB4,constDV,ne_eq,cd_f,cv5_3,bd148,isO_eq,BB7,bd148_0,BB6,Nat.reduceAdd,Nat.reduceLeDiff,bd148_2,al148,bgen_eq,if_false,if_true,Proofs.Tryz.underlying148,cn148,Pos.inBox,cd_t,bd96,bd96_0,bd96_1,bs64_1,fl148_4,Proofs.Tryz.underlying64,cn64]
     refine w_draw [4,6,7,10] (.quiet 0 (.quiet 1 (.quiet 2 (.quiet 3 (.quiet 5 (.acts [(4,[5,0],.acts [(6,[3,2,1,0],.acts [(7,[0],.quiet 8 (.quiet 9 (.acts [(10,[],.done)])))])]),(6,[3,2,1,0],.acts [(4,[5,0],.acts [(7,[0],.quiet 8 (.quiet 9 (.acts [(10,[],.done)])))])])])))))) (by decide) (by kernel_rfl) ?_
     simp only [w2,Int.reduceNeg,BB0,BB5,BB1,Nat.reduceLT,Nat.reduceBEq,BB3,BB2,dropLk,dnil,fp143_3,BQ,if_true,la148,Nat.reduceAdd,Nat.reduceLeDiff,List.map_cons,List.map_nil,t3,la67,addrPos,ia67,if_false,dropLks,Pos.atSlot,bs67_1,isO_eq,BB4,apo67_67,takK,lkGet,BB6,ap67_67,List.length_map,g3,Proofs.Tryz.underlying67,cn67,Pos.inHp,movK,constDV,BB7]
     exact ⟨⟨by omega,by omega,hfin _ (hup true)⟩,by omega,by omega,hfin _ (hup true)⟩
   ·skip
    simp only [BB1,BB5,Pos.isHp,BQ,dropLk,BB0,Nat.reduceLT,takK,BB3,movK,Nat.reduceBEq,BB2,dnil,fp143_2,t1,la5,BB4,hsp,gs2_ft,constDV,List.map_nil,if_false,cd_f]
    refine w_draw [6,7,12,13,14] (.quiet 0 (.quiet 1 (.quiet 2 (.quiet 3 (.quiet 4 (.quiet 5 (.acts [(6,[3,2,1,0],.acts [(7,[],.quiet 8 (.quiet 9 (.quiet 10 (.quiet 11 (.acts [(12,[11,10],.acts [(13,[11],.acts [(14,[],.done)])])])))))])]))))))) (by decide) (by kernel_rfl) ?_
    simp only [BB0,BB5,BB1,Nat.reduceLT,Nat.reduceBEq,BB3,BB2,dropLk,dnil,fp143_1,BQ,t1,la34,BB4,Nat.reduceEqDiff,if_false,if_true,List.map_cons,List.map_nil]
    refine appKey hkl ?_
    simp only [BB1,BB5,Pos.isHp,BQ,dropLk,BB0,Nat.reduceLT,Nat.reduceBEq,BB3,t1,la34,BB2,fp143_1,dnil,dropLks,BB4,Nat.reduceEqDiff,if_true,if_false,List.map_cons,List.map_nil]
    refine appSnGetX hx sn a1 hg hm fun H2 v f2 hv => ?_
    have d3:=d1.fr f2 (by simp)
    have t3:=d3.top
    rw [ho] at t3
    have g3 : ∀ X,(H2.set D.d X)[D.d]? = some X:=fun X => List.getElem?_set_self (List.getElem?_eq_some_iff.1 t3).1
    have w2 : IntKind.i64.wrap sp = sp:=wrap_i64 (by omega) (by omega)
    have f12 : Fr [] H H2:=(f1.trans f2).mono (by simp)
    have hup : ∀ ok,DealS.At { D with reads:=D.reads ++ [getR sp k v ok] } (H2.set D.d (.cells [.ptr D.x 0,.ptr D.s 0,.int .u8 D.home,.sl true 5 (D.reads.map rdD ++ [.agg [.int .i64 sp,.bool false,.str k,.str [],.sl false 2 ((pairsL k v ok).map prD)]]),.hsl D.wi 3 0 D.ws.length D.cap,.bool false])):=fun ok =>
     h1.readUp f12 (D.reads ++ [getR sp k v ok]) _ (by rw [ho,List.map_append]; rfl)
    have hfin:=fun X hX => hK4 ho hk hp2 (H2.set D.d X) v ((f12.trans (Fr.set _ D.d X)).mono (by simp)) hv hX
    cases hse : (seenE E.es (keyS sp k) (min D.n m)).isSome
    ·rw [hse] at hfin
     simp only [BB1,BB5,Pos.isHp,BQ,dropLk,dropLks,BB0,Nat.reduceLT,BB3,BB2,List.map_cons,List.map_nil,Nat.reduceBEq,takK,movK,BB4,constDV,ne_eq,cd_f,cv5_3,bd148,isO_eq,BB7,bd148_0,BB6,Nat.reduceAdd,Nat.reduceLeDiff,bd148_2,al148,bgen_eq,if_false,if_true,Proofs.Tryz.underlying148,cn148,Pos.inBox]
     refine w_draw [4,6,7,10] (.quiet 0 (.quiet 1 (.quiet 2 (.quiet 3 (.quiet 5 (.acts [(4,[5,0],.acts [(6,[3,2,1,0],.acts [(7,[0],.quiet 8 (.quiet 9 (.acts [(10,[],.done)])))])]),(6,[3,2,1,0],.acts [(4,[5,0],.acts [(7,[0],.quiet 8 (.quiet 9 (.acts [(10,[],.done)])))])])])))))) (by decide) (by kernel_rfl) ?_
     simp only [w2,BB0,BB5,BB1,Nat.reduceLT,Nat.reduceBEq,BB3,BB2,dropLk,dnil,fp143_3,BQ,if_true,la148,Nat.reduceAdd,Nat.reduceLeDiff,List.map_cons,List.map_nil,t3,la67,addrPos,ia67,if_false,dropLks,Pos.atSlot,bs67_1,isO_eq,BB4,apo67_67,takK,lkGet,BB6,ap67_67,List.length_map,g3,Proofs.Tryz.underlying67,cn67,Pos.inHp,movK,constDV,BB7]
     exact ⟨⟨by omega,by omega,hfin _ (hup false)⟩,by omega,by omega,hfin _ (hup false)⟩
    ·rw [hse] at hfin
     simp only [BB1,BB5,Pos.isHp,BQ,dropLk,dropLks,BB0,Nat.reduceLT,BB3,BB2,List.map_cons,List.map_nil,Nat.reduceBEq,takK,movK,BB4,constDV,ne_eq,cd_f,cv5_3,bd148,isO_eq,BB7,bd148_0,BB6,Nat.reduceAdd,Nat.reduceLeDiff,bd148_2,al148,bgen_eq,if_false,if_true,Proofs.Tryz.underlying148,cn148,Pos.inBox,cd_t,bd96,bd96_0,bd96_1,bs64_1,fl148_4,Proofs.Tryz.underlying64,cn64]
     refine w_draw [4,6,7,10] (.quiet 0 (.quiet 1 (.quiet 2 (.quiet 3 (.quiet 5 (.acts [(4,[5,0],.acts [(6,[3,2,1,0],.acts [(7,[0],.quiet 8 (.quiet 9 (.acts [(10,[],.done)])))])]),(6,[3,2,1,0],.acts [(4,[5,0],.acts [(7,[0],.quiet 8 (.quiet 9 (.acts [(10,[],.done)])))])])])))))) (by decide) (by kernel_rfl) ?_
     simp only [w2,BB0,BB5,BB1,Nat.reduceLT,Nat.reduceBEq,BB3,BB2,dropLk,dnil,fp143_3,BQ,if_true,la148,Nat.reduceAdd,Nat.reduceLeDiff,List.map_cons,List.map_nil,t3,la67,addrPos,ia67,if_false,dropLks,Pos.atSlot,bs67_1,isO_eq,BB4,apo67_67,takK,lkGet,BB6,ap67_67,List.length_map,g3,Proofs.Tryz.underlying67,cn67,Pos.inHp,movK,constDV,BB7]
     exact ⟨⟨by omega,by omega,hfin _ (hup true)⟩,by omega,by omega,hfin _ (hup true)⟩
 ·rw [ho] at t0
  simp only [BQ,Option.getD_some,argSlots,BB2,BB1,Nat.reduceAdd,BB0,constDV,dropLk,Nat.reduceLT,movK,Nat.reduceBEq,BB3,dnil,fp143_5,t0,la4,takK,cd_t,BB7]
  exact hK1 ho H (Fr.refl _ _)
end Go.Ab.En
